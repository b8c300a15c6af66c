/-
  firthref06.RightMsg: a message that is refused before its lists.
-/
import Derived.Test.YtgnedaihchmoaaaCodeRefRight
namespace Go.Proofs.Ytgnedaihchmoaaa
open Go.RowKit
set_option linter.unusedVariables false

set_option maxHeartbeats 8000000 in
set_option maxRecDepth 100000 in
theorem refRightMsg_a (x : Mx) (w : World) (hv : MRow w x) (hbad : ¬ ((1 ≤ x.m.kind ∧ x.m.kind ≤ 17) ∧ placeB x.m.fs x.m.fn = true ∧ placeB x.m.ts x.m.tn = true ∧ 0 ≤ x.m.id ∧ 0 ≤ x.m.n ∧ (0 ≤ x.m.fo ∧ x.m.fo ≤ 8) ∧ (0 ≤ x.m.code ∧ x.m.code ≤ 999) ∧ x.m.key.size ≤ 32)) : Calls Try.prog 14 #[.agg x.cells] w (BoolE w (rightM x.m)) := by
  have HV := Lib.hid hv
  have hkey := hv.key
  have hlr := hv.lr
  have hlp := hv.lp
  have hlo := hv.lo
  have hlv := hv.lv
  have el10 := Sl.len1 hv.vec
  have el11 := Sl.len1 hv.path
  have el12 := Sl.len1 hv.hashes
  have el13 := Sl.len1 hv.route
  have el9 := hv.recs.len
  clear hv
  obtain ⟨⟨kind, fs, fn, ts, tn, id, mn, fo, code, key, recs, vec, path, hashes, route⟩, Ar, nr, cr, Av, nv, cv, Ap, np, cp, Ah, nh, ch, Ao, no, co⟩ := x
  simp only [Mx.cells] at *
  have bA : Below w.heap.size w (w.alloc (.cells #[.int .i64 kind, .int .i64 fs, .int .i64 fn, .int .i64 ts, .int .i64 tn, .int .i64 id, .int .i64 mn, .int .i64 fo, .int .i64 code, .string key, .slice Ar nr cr, .slice Av nv cv, .slice Ap np cp, .slice Ah nh ch, .slice Ao no co] 30)) := (Below.refl _ _).alloc (Nat.le_refl _) _
  have hb := heap_alloc_new w (.cells #[.int .i64 kind, .int .i64 fs, .int .i64 fn, .int .i64 ts, .int .i64 tn, .int .i64 id, .int .i64 mn, .int .i64 fo, .int .i64 code, .string key, .slice Ar nr cr, .slice Av nv cv, .slice Ap np cp, .slice Ah nh ch, .slice Ao no co] 30)
  have HA := Lib.hid bA
  have HX := Lib.hid hb
  have p0 := row_cell (j := 0) hb rfl
  have p1 := row_cell (j := 1) hb rfl
  have p2 := row_cell (j := 2) hb rfl
  have C1 := Lib.hid (refPlace_any fs fn (w.alloc (.cells #[.int .i64 kind, .int .i64 fs, .int .i64 fn, .int .i64 ts, .int .i64 tn, .int .i64 id, .int .i64 mn, .int .i64 fo, .int .i64 code, .string key, .slice Ar nr cr, .slice Av nv cv, .slice Ap np cp, .slice Ah nh ch, .slice Ao no co] 30)))
  clear hb bA
  by_cases hk : 1 ≤ kind ∧ kind ≤ 17
  rotate_left
  · have HN := Lib.hid (rightM_no (m := ⟨kind, fs, fn, ts, tn, id, mn, fo, code, key, recs, vec, path, hashes, route⟩) (fun h => hk h.kind))
    rcases (show kind < 1 ∨ (1 ≤ kind ∧ 17 < kind) by omega) with h1 | ⟨h0, h1⟩
    all_goals
      clear hk
      go_enter Try.func14, Try.ntmps14
      go_wp2
      go_ret
      exact BoolE.of HN.out.symm HA.out
  obtain ⟨k1, k2⟩ := hk
  go_enter Try.func14, Try.ntmps14
  go_wp2_with fail
  refine C1.out.mono ?_
  rintro e w1 ⟨rfl, b1⟩
  have HA1 := Lib.hid (HA.out.trans (b1.mono HA.out.size))
  have HX1 := Lib.hid ((b1.block _ (lt_of_block HX.out)).trans HX.out)
  clear b1 C1 HX HA p0 p1 p2
  cases hp1 : placeB fs fn
  · have HN := Lib.hid (rightM_no (m := ⟨kind, fs, fn, ts, tn, id, mn, fo, code, key, recs, vec, path, hashes, route⟩) (fun h => (by have h2 := placeB_true.2 h.from_; rw [hp1] at h2; cases h2)))
    go_wp2
    go_ret
    exact BoolE.of HN.out.symm HA1.out
  have p3 := row_cell (j := 3) HX1.out rfl
  have p4 := row_cell (j := 4) HX1.out rfl
  have C2 := Lib.hid (refPlace_any ts tn w1)
  go_wp2_with fail
  refine C2.out.mono ?_
  rintro e w2 ⟨rfl, b2⟩
  have HA2 := Lib.hid (HA1.out.trans (b2.mono HA1.out.size))
  have HX2 := Lib.hid ((b2.block _ (lt_of_block HX1.out)).trans HX1.out)
  clear b2 C2 HX1 HA1 p3 p4
  cases hp2 : placeB ts tn
  · have HN := Lib.hid (rightM_no (m := ⟨kind, fs, fn, ts, tn, id, mn, fo, code, key, recs, vec, path, hashes, route⟩) (fun h => (by have h2 := placeB_true.2 h.to_; rw [hp2] at h2; cases h2)))
    go_wp2
    go_ret
    exact BoolE.of HN.out.symm HA2.out
  have p5 := row_cell (j := 5) HX2.out rfl
  have p6 := row_cell (j := 6) HX2.out rfl
  have p7 := row_cell (j := 7) HX2.out rfl
  have p8 := row_cell (j := 8) HX2.out rfl
  have p9 := row_cell (j := 9) HX2.out rfl
  by_cases hr : 0 ≤ id ∧ 0 ≤ mn ∧ (0 ≤ fo ∧ fo ≤ 8) ∧ (0 ≤ code ∧ code ≤ 999) ∧ key.size ≤ 32
  rotate_left
  · have HN := Lib.hid (rightM_no (m := ⟨kind, fs, fn, ts, tn, id, mn, fo, code, key, recs, vec, path, hashes, route⟩) (fun h => hr ⟨h.id, h.n, h.fo, h.code, h.key⟩))
    rcases (show id < 0 ∨ (0 ≤ id ∧ mn < 0) ∨ (0 ≤ id ∧ 0 ≤ mn ∧ fo < 0) ∨ (0 ≤ id ∧ 0 ≤ mn ∧ 0 ≤ fo ∧ 8 < fo) ∨ (0 ≤ id ∧ 0 ≤ mn ∧ 0 ≤ fo ∧ fo ≤ 8 ∧ code < 0) ∨ (0 ≤ id ∧ 0 ≤ mn ∧ 0 ≤ fo ∧ fo ≤ 8 ∧ 0 ≤ code ∧ 999 < code) ∨ (0 ≤ id ∧ 0 ≤ mn ∧ 0 ≤ fo ∧ fo ≤ 8 ∧ 0 ≤ code ∧ code ≤ 999 ∧ 32 < key.size) by omega) with h1 | ⟨h1, h2⟩ | ⟨h1, h2, h3⟩ | ⟨h1, h2, h3, h4⟩ | ⟨h1, h2, h3, h4, h5⟩ | ⟨h1, h2, h3, h4, h5, h6⟩ | ⟨h1, h2, h3, h4, h5, h6, h7⟩
    all_goals
      clear hr
      go_wp2
      go_ret
      exact BoolE.of HN.out.symm HA2.out
  exact absurd ⟨⟨k1, k2⟩, hp1, hp2, hr⟩ hbad
end Go.Proofs.Ytgnedaihchmoaaa
