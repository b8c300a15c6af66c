/-
  firthref06.RightMsg: a message without a vector.
-/
import Derived.Test.YtgnedaihchmoaaaCodeRefRight
namespace Go.Proofs.Ytgnedaihchmoaaa
open Go.RowKit
set_option linter.unusedVariables false

set_option maxHeartbeats 8000000 in
set_option maxRecDepth 100000 in
theorem refRightMsg_b (x : Mx) (w : World) (hv : MRow w x) (hk : 1 ≤ x.m.kind ∧ x.m.kind ≤ 17) (hp1' : placeB x.m.fs x.m.fn = true) (hp2' : placeB x.m.ts x.m.tn = true) (hr : 0 ≤ x.m.id ∧ 0 ≤ x.m.n ∧ (0 ≤ x.m.fo ∧ x.m.fo ≤ 8) ∧ (0 ≤ x.m.code ∧ x.m.code ≤ 999) ∧ x.m.key.size ≤ 32) (hz : x.nv = 0) : Calls Try.prog 14 #[.agg x.cells] w (BoolE w (rightM x.m)) := by
  have HV := Lib.hid hv
  have hkey := hv.key
  have hlr := hv.lr
  have hlp := hv.lp
  have hlo := hv.lo
  have hlv := hv.lv
  have el10 := Sl.len1 hv.vec
  have el11 := Sl.len1 hv.path
  have el12 := Sl.len1 hv.hashes
  have el13 := Sl.len1 hv.route
  have el9 := hv.recs.len
  clear hv
  obtain ⟨⟨kind, fs, fn, ts, tn, id, mn, fo, code, key, recs, vec, path, hashes, route⟩, Ar, nr, cr, Av, nv, cv, Ap, np, cp, Ah, nh, ch, Ao, no, co⟩ := x
  simp only [Mx.cells] at *
  have bA : Below w.heap.size w (w.alloc (.cells #[.int .i64 kind, .int .i64 fs, .int .i64 fn, .int .i64 ts, .int .i64 tn, .int .i64 id, .int .i64 mn, .int .i64 fo, .int .i64 code, .string key, .slice Ar nr cr, .slice Av nv cv, .slice Ap np cp, .slice Ah nh ch, .slice Ao no co] 30)) := (Below.refl _ _).alloc (Nat.le_refl _) _
  have hb := heap_alloc_new w (.cells #[.int .i64 kind, .int .i64 fs, .int .i64 fn, .int .i64 ts, .int .i64 tn, .int .i64 id, .int .i64 mn, .int .i64 fo, .int .i64 code, .string key, .slice Ar nr cr, .slice Av nv cv, .slice Ap np cp, .slice Ah nh ch, .slice Ao no co] 30)
  have HA := Lib.hid bA
  have HX := Lib.hid hb
  have p0 := row_cell (j := 0) hb rfl
  have p1 := row_cell (j := 1) hb rfl
  have p2 := row_cell (j := 2) hb rfl
  have C1 := Lib.hid (refPlace_any fs fn (w.alloc (.cells #[.int .i64 kind, .int .i64 fs, .int .i64 fn, .int .i64 ts, .int .i64 tn, .int .i64 id, .int .i64 mn, .int .i64 fo, .int .i64 code, .string key, .slice Ar nr cr, .slice Av nv cv, .slice Ap np cp, .slice Ah nh ch, .slice Ao no co] 30)))
  clear hb bA
  have HZ := Lib.hid hz
  clear hz
  obtain ⟨k1, k2⟩ := hk
  go_enter Try.func14, Try.ntmps14
  go_wp2_with fail
  refine C1.out.mono ?_
  rintro e w1 ⟨rfl, b1⟩
  have HA1 := Lib.hid (HA.out.trans (b1.mono HA.out.size))
  have HX1 := Lib.hid ((b1.block _ (lt_of_block HX.out)).trans HX.out)
  clear b1 C1 HX HA p0 p1 p2
  cases hp1 : placeB fs fn
  · rw [hp1] at hp1'; cases hp1'
  have p3 := row_cell (j := 3) HX1.out rfl
  have p4 := row_cell (j := 4) HX1.out rfl
  have C2 := Lib.hid (refPlace_any ts tn w1)
  go_wp2_with fail
  refine C2.out.mono ?_
  rintro e w2 ⟨rfl, b2⟩
  have HA2 := Lib.hid (HA1.out.trans (b2.mono HA1.out.size))
  have HX2 := Lib.hid ((b2.block _ (lt_of_block HX1.out)).trans HX1.out)
  clear b2 C2 HX1 HA1 p3 p4
  cases hp2 : placeB ts tn
  · rw [hp2] at hp2'; cases hp2'
  have p5 := row_cell (j := 5) HX2.out rfl
  have p6 := row_cell (j := 6) HX2.out rfl
  have p7 := row_cell (j := 7) HX2.out rfl
  have p8 := row_cell (j := 8) HX2.out rfl
  have p9 := row_cell (j := 9) HX2.out rfl
  obtain ⟨r1, r2, ⟨r3, r4⟩, ⟨r5, r6⟩, r7⟩ := hr
  have CV := Lib.hid (refRight_any Av nv cv vec w2 (Sl.below HV.out.vec HA2.out) (by omega))
  have p10 := row_cell (j := 10) HX2.out rfl
  have p11 := row_cell (j := 11) HX2.out rfl
  have p12 := row_cell (j := 12) HX2.out rfl
  have p13 := row_cell (j := 13) HX2.out rfl
  have p14 := row_cell (j := 14) HX2.out rfl
  by_cases hq : np ≤ 2 ∧ nh ≤ 16 ∧ no ≤ 16
  rotate_left
  · have HN := Lib.hid (rightM_no (m := ⟨kind, fs, fn, ts, tn, id, mn, fo, code, key, recs, vec, path, hashes, route⟩) (fun h => hq (by have h1 := h.path.2; have h2 := h.hashes; have h3 := h.route.2; simp only at h1 h2 h3; omega)))
    rcases (show 2 < np ∨ (np ≤ 2 ∧ 16 < nh) ∨ (np ≤ 2 ∧ nh ≤ 16 ∧ 16 < no) by omega) with h1 | ⟨h1, h2⟩ | ⟨h1, h2, h3⟩
    all_goals
      clear hq
      have hz := HZ.out
      subst hz
      go_wp2
      go_ret
      exact BoolE.of HN.out.symm HA2.out
  obtain ⟨q1, q2, q3⟩ := hq
  have hz := HZ.out
  have HVEC := Lib.hid (show allB (inB 0 4611686018427387904) 16 vec = true from by rw [List.eq_nil_of_length_eq_zero (show vec.length = 0 by omega)]; rfl)
  subst hz
  go_wp2
  go_loopw [3] (fun i wr => ∃ k : Nat, i = .int .i64 (k : Int) ∧ k ≤ nr ∧ Hid (AllTo rightR recs k) ∧ Hid (Below w.heap.size w wr) ∧ Hid (wr.heap[w.heap.size]? = some (.cells #[.int .i64 kind, .int .i64 fs, .int .i64 fn, .int .i64 ts, .int .i64 tn, .int .i64 id, .int .i64 mn, .int .i64 fo, .int .i64 code, .string key, .slice Ar nr cr, .slice Av 0 cv, .slice Ap np cp, .slice Ah nh ch, .slice Ao no co] 30 (0, 0)))) (fun i _ => nr - (intOf i).toNat)
  case atStart => exact ⟨0, rfl, Nat.zero_le _, AllTo.start _ _, HA2, HX2⟩
  case round =>
    obtain ⟨k, rfl, hk, HO, HB, HX⟩ := hrel
    clear HA2 HX2 CV p10 p11 p12 p13 p14
    have p8 := row_cell (j := 10) HX.out rfl
    by_cases hlt : k < nr
    · obtain ⟨b, off, r, Ap', np', cp', rfl, hx, hr, hc0, hc1⟩ := (HV.out.recs.below HB.out).at_ hlt
      have c := refRightRec_any r Ap' np' cp' wr hr
      have hmem := List.mem_of_getElem? hx
      have HMX := Lib.hid hx
      obtain ⟨rk, rv⟩ := r
      simp only at hc0 hc1 c
      cases hb : rightR ⟨rk, rv⟩
      · have HN := Lib.hid (rightM_no (m := ⟨kind, fs, fn, ts, tn, id, mn, fo, code, key, recs, vec, path, hashes, route⟩) (fun h => by have h2 := h.recs _ hmem; rw [hb] at h2; cases h2))
        rw [hb] at c
        have C := Lib.hid c
        clear c hb hmem hx hr
        go_wp2_with fail
        refine C.out.mono ?_
        rintro e w3 ⟨rfl, b3⟩
        have HB3 := Lib.hid (HB.out.trans (b3.mono HB.out.size))
        clear b3 C
        go_wp2
        go_ret
        exact BoolE.of HN.out.symm HB3.out
      · have HO2 := Lib.hid (HO.out.step HMX.out hb)
        rw [hb] at c
        have C := Lib.hid c
        clear c hb hmem hx hr
        go_wp2_with fail
        refine C.out.mono ?_
        rintro e w3 ⟨rfl, b3⟩
        have HB3 := Lib.hid (HB.out.trans (b3.mono HB.out.size))
        have HX3 := Lib.hid ((b3.block _ (lt_of_block HX.out)).trans HX.out)
        clear b3 C HB HX HO p8 hc0 hc1
        go_wp2
        go_roundw
        case rel => exact ⟨k + 1, by go_num, by omega, HO2, HB3, HX3⟩
        case measure => simp [intOf]; omega
    · obtain rfl : nr = k := by omega
      have HREC := Lib.hid (HO.out.get (by omega))
      have p10 := row_cell (j := 12) HX.out rfl
      have p12 := row_cell (j := 14) HX.out rfl
      have HP := Lib.hid (Sl.below HV.out.path HB.out)
      have HRT := Lib.hid (Sl.below HV.out.route HB.out)
      clear HO
      go_wp2
      go_loop [4] (fun i => ∃ k : Nat, i = .int .i64 (k : Int) ∧ k ≤ np ∧ Hid (AllTo (inB 0 15) path k)) (fun i => np - (intOf i).toNat)
      case atStart => exact ⟨0, rfl, Nat.zero_le _, AllTo.start _ _⟩
      case round =>
        obtain ⟨k, rfl, hk, HO⟩ := hrel
        by_cases hlt : k < np
        · obtain ⟨b, off, y, rfl, hy, hc⟩ := Sl.at1m HP.out hlt
          have HY := Lib.hid hy
          clear hy
          rcases (show y < 0 ∨ (0 ≤ y ∧ 15 < y) ∨ (0 ≤ y ∧ y ≤ 15) by omega) with h1 | ⟨h1, h2⟩ | ⟨h1, h2⟩
          · have HN := Lib.hid (rightM_no (m := ⟨kind, fs, fn, ts, tn, id, mn, fo, code, key, recs, vec, path, hashes, route⟩) (fun h => by have h2 := h.path.1 _ (List.mem_of_getElem? HY.out); omega))
            go_wp2
            go_ret
            exact BoolE.of HN.out.symm HB.out
          · have HN := Lib.hid (rightM_no (m := ⟨kind, fs, fn, ts, tn, id, mn, fo, code, key, recs, vec, path, hashes, route⟩) (fun h => by have h2 := h.path.1 _ (List.mem_of_getElem? HY.out); omega))
            go_wp2
            go_ret
            exact BoolE.of HN.out.symm HB.out
          · have HO2 := Lib.hid (HO.out.step HY.out (inB_true.2 ⟨h1, h2⟩))
            go_wp2
            go_round
            case rel => exact ⟨k + 1, by go_num, by omega, HO2⟩
            case measure => simp [intOf]; omega
        · obtain rfl : np = k := by omega
          have HPATH := Lib.hid (HO.out.get (by omega))
          clear HO
          go_wp2
          go_loop [5] (fun i => ∃ k : Nat, i = .int .i64 (k : Int) ∧ k ≤ no ∧ Hid (AllTo (inB 1 16) route k)) (fun i => no - (intOf i).toNat)
          case atStart => exact ⟨0, rfl, Nat.zero_le _, AllTo.start _ _⟩
          case round =>
            obtain ⟨k, rfl, hk, HO⟩ := hrel
            by_cases hlt : k < no
            · obtain ⟨b, off, y, rfl, hy, hc⟩ := Sl.at1m HRT.out hlt
              have HY := Lib.hid hy
              clear hy
              rcases (show y < 1 ∨ (1 ≤ y ∧ 16 < y) ∨ (1 ≤ y ∧ y ≤ 16) by omega) with h1 | ⟨h1, h2⟩ | ⟨h1, h2⟩
              · have HN := Lib.hid (rightM_no (m := ⟨kind, fs, fn, ts, tn, id, mn, fo, code, key, recs, vec, path, hashes, route⟩) (fun h => by have h2 := h.route.1 _ (List.mem_of_getElem? HY.out); omega))
                go_wp2
                go_ret
                exact BoolE.of HN.out.symm HB.out
              · have HN := Lib.hid (rightM_no (m := ⟨kind, fs, fn, ts, tn, id, mn, fo, code, key, recs, vec, path, hashes, route⟩) (fun h => by have h2 := h.route.1 _ (List.mem_of_getElem? HY.out); omega))
                go_wp2
                go_ret
                exact BoolE.of HN.out.symm HB.out
              · have HO2 := Lib.hid (HO.out.step HY.out (inB_true.2 ⟨h1, h2⟩))
                go_wp2
                go_round
                case rel => exact ⟨k + 1, by go_num, by omega, HO2⟩
                case measure => simp [intOf]; omega
            · obtain rfl : no = k := by omega
              have HROUTE := Lib.hid (HO.out.get (by omega))
              have HM := Lib.hid (show rightM ⟨kind, fs, fn, ts, tn, id, mn, fo, code, key, recs, vec, path, hashes, route⟩ = true from rightM_true.2 ⟨⟨k1, k2⟩, placeB_true.1 hp1, placeB_true.1 hp2, r1, r2, ⟨r3, r4⟩, ⟨r5, r6⟩, r7, HREC.out, by have h := allB_true.1 HVEC.out; exact ⟨fun x hx => inB_true.1 (h.1 x hx), h.2⟩,
                ⟨fun x hx => inB_true.1 (HPATH.out x hx), by simp only; omega⟩, by simp only; omega, ⟨fun x hx => inB_true.1 (HROUTE.out x hx), by simp only; omega⟩⟩)
              clear HO
              go_wp2
              go_ret
              exact BoolE.of HM.out.symm HB.out
end Go.Proofs.Ytgnedaihchmoaaa
