/-
  firth/code.RightMsg: its quiet branches. (Printed by tools/rightmsg.py.)
-/
import Derived.Test.YtgnedaihchmoaaaCodeRightBase
namespace Go.Proofs.Ytgnedaihchmoaaa
open Go.RowKit
set_option linter.unusedVariables false

set_option maxHeartbeats 8000000 in
set_option maxRecDepth 100000 in
theorem rightMsg_no10 (x : Mx) (w : World) (hv : MRow w x) (q1 : 1 ≤ x.m.kind) (q2 : x.m.kind ≤ 17) (q3 : placeB x.m.fs x.m.fn = true) (q4 : placeB x.m.ts x.m.tn = true) (q5 : 0 ≤ x.m.id) (q6 : 0 ≤ x.m.n) (q7 : 0 ≤ x.m.fo) (q8 : x.m.fo ≤ 8) (q9 : 0 ≤ x.m.code) (q10 : ¬ x.m.code ≤ 999) : Calls Try.prog 13 #[.agg x.cells] w (BoolE w (rightM x.m)) := by
  have bA : Below w.heap.size w (w.alloc (.cells x.cells 30)) := (Below.refl _ _).alloc (Nat.le_refl _) _
  have hbx := heap_alloc_new w (.cells x.cells 30)
  have HB0 := Lib.hid bA
  have hS := fun (W : World) (b : Below (w.alloc (.cells x.cells 30)).heap.size (w.alloc (.cells x.cells 30)) W) => Mx.cell ((b.block w.heap.size (by simp)).trans hbx)
  have HM := Lib.hid hv
  clear hv bA hbx
  obtain ⟨⟨kind, fs, fn, ts, tn, id, n, fo, code, key, recs, vec, path, hashes, route⟩, Ar, nr, cr, Av, nv, cv, Ap, np, cp, Ah, nh, ch, Ao, no, co⟩ := x
  have HE := Lib.hid (show rightM ⟨kind, fs, fn, ts, tn, id, n, fo, code, key, recs, vec, path, hashes, route⟩ = (inB 1 17 kind && (placeB fs fn && (placeB ts tn && (decide (0 ≤ id) && (decide (0 ≤ n) && (inB 0 8 fo && (inB 0 999 code && (decide ((key.size : Int) ≤ 32) &&
    (allB rightR nr recs && (allB (inB 0 4611686018427387904) 16 vec && (allB (inB 0 15) 2 path && (decide ((nh : Int) ≤ 16) && allB (inB 1 16) 16 route)))))))))))) from rightM_mem HM.out)
  unfold Mx.cells at *
  simp only at hS HB0 q1 q2 q3 q4 q5 q6 q7 q8 q9 q10
  have HS := Lib.hid (fun (W : World) (b : _) => And.intro (hS W b 0 _ rfl) (And.intro (hS W b 1 _ rfl) (And.intro (hS W b 2 _ rfl) (And.intro (hS W b 3 _ rfl) (And.intro (hS W b 4 _ rfl) (And.intro (hS W b 5 _ rfl) (And.intro (hS W b 6 _ rfl) (And.intro (hS W b 7 _ rfl) (And.intro (hS W b 8 _ rfl) (And.intro (hS W b 9 _ rfl) (And.intro (hS W b 10 _ rfl) (And.intro (hS W b 11 _ rfl) (And.intro (hS W b 12 _ rfl) (And.intro (hS W b 13 _ rfl) (hS W b 14 _ rfl)))))))))))))))
  clear hS
  have v1a : decide (kind ≥ 1) = true := decide_eq_true (by omega)
  have v1b : decide (1 ≤ kind) = true := decide_eq_true (by omega)
  have v2a : decide (kind ≤ 17) = true := decide_eq_true (by omega)
  have v5a : decide (id ≥ 0) = true := decide_eq_true (by omega)
  have v5b : decide (0 ≤ id) = true := decide_eq_true (by omega)
  have v6a : decide (n ≥ 0) = true := decide_eq_true (by omega)
  have v6b : decide (0 ≤ n) = true := decide_eq_true (by omega)
  have v7a : decide (fo ≥ 0) = true := decide_eq_true (by omega)
  have v7b : decide (0 ≤ fo) = true := decide_eq_true (by omega)
  have v8a : decide (fo ≤ 8) = true := decide_eq_true (by omega)
  have v9a : decide (code ≥ 0) = true := decide_eq_true (by omega)
  have v9b : decide (0 ≤ code) = true := decide_eq_true (by omega)
  have v10a : decide (code ≤ 999) = false := decide_eq_false (by omega)
  have C3 := Lib.hid (fun W : Ext (w.alloc (.cells #[.int .i64 kind, .int .i64 fs, .int .i64 fn, .int .i64 ts, .int .i64 tn, .int .i64 id, .int .i64 n, .int .i64 fo, .int .i64 code, .string key, .slice Ar nr cr, .slice Av nv cv, .slice Ap np cp, .slice Ah nh ch, .slice Ao no co] 30)) => (show Calls _ _ _ W.w (BoolE W.w true) from by rw [← q3]; exact place_any fs fn W.w))
  have C4 := Lib.hid (fun W : Ext (w.alloc (.cells #[.int .i64 kind, .int .i64 fs, .int .i64 fn, .int .i64 ts, .int .i64 tn, .int .i64 id, .int .i64 n, .int .i64 fo, .int .i64 code, .string key, .slice Ar nr cr, .slice Av nv cv, .slice Ap np cp, .slice Ah nh ch, .slice Ao no co] 30)) => (show Calls _ _ _ W.w (BoolE W.w true) from by rw [← q4]; exact place_any ts tn W.w))
  obtain ⟨r0, r1, r2, r3, r4, r5, r6, r7, r8, r9, r10, r11, r12, r13, r14⟩ := HS.out _ (Below.refl _ _)
  have G0 := Ext.cell r0
  have G1 := Ext.cell r1
  have G2 := Ext.cell r2
  have G3 := Ext.cell r3
  have G4 := Ext.cell r4
  have G5 := Ext.cell r5
  have G6 := Ext.cell r6
  have G7 := Ext.cell r7
  have G8 := Ext.cell r8
  have G9 := Ext.cell r9
  have G10 := Ext.cell r10
  have G11 := Ext.cell r11
  have G12 := Ext.cell r12
  have G13 := Ext.cell r13
  have G14 := Ext.cell r14
  clear r0 r1 r2 r3 r4 r5 r6 r7 r8 r9 r10 r11 r12 r13 r14 HS
  have HE := Lib.hid (HE.out.trans (show _ = false by simp [inB, q10]))
  clear q1 q2 q3 q4 q5 q6 q7 q8 q9 q10
  go_enter Try.func13, Try.ntmps13
  go_wp2_with fail
  refine wp_region_ext (by kernel_rfl) (by kernel_rfl) ?_
  simp only [List.append_eq, List.cons_append, List.nil_append]
  repeat (go_big_quiet_step (first | (go_at_call 45; with_reducible exact Calls.ext_of (C3.out _)) | (go_at_call 45; with_reducible exact Calls.ext_of (C4.out _)) | (go_at_call 46; with_reducible exact Calls.ext_of (C12.out _))))
  refine wpQuiet_nil ?_
  intro w1 hw1
  have B1 := Lib.hid (HB0.out.trans ((ext_end hw1).mono HB0.out.size))
  clear hw1 G0 G1 G2 G3 G4 G5 G6 G7 G8 G9 G10 G11 G12 G13 G14
  go_wp2
  go_ret
  exact BoolE.of HE.out.symm B1.out
set_option maxHeartbeats 8000000 in
set_option maxRecDepth 100000 in
theorem rightMsg_no11 (x : Mx) (w : World) (hv : MRow w x) (q1 : 1 ≤ x.m.kind) (q2 : x.m.kind ≤ 17) (q3 : placeB x.m.fs x.m.fn = true) (q4 : placeB x.m.ts x.m.tn = true) (q5 : 0 ≤ x.m.id) (q6 : 0 ≤ x.m.n) (q7 : 0 ≤ x.m.fo) (q8 : x.m.fo ≤ 8) (q9 : 0 ≤ x.m.code) (q10 : x.m.code ≤ 999) (q11 : ¬ (x.m.key.size : Int) ≤ 32) : Calls Try.prog 13 #[.agg x.cells] w (BoolE w (rightM x.m)) := by
  have bA : Below w.heap.size w (w.alloc (.cells x.cells 30)) := (Below.refl _ _).alloc (Nat.le_refl _) _
  have hbx := heap_alloc_new w (.cells x.cells 30)
  have HB0 := Lib.hid bA
  have hS := fun (W : World) (b : Below (w.alloc (.cells x.cells 30)).heap.size (w.alloc (.cells x.cells 30)) W) => Mx.cell ((b.block w.heap.size (by simp)).trans hbx)
  have HM := Lib.hid hv
  clear hv bA hbx
  obtain ⟨⟨kind, fs, fn, ts, tn, id, n, fo, code, key, recs, vec, path, hashes, route⟩, Ar, nr, cr, Av, nv, cv, Ap, np, cp, Ah, nh, ch, Ao, no, co⟩ := x
  have HE := Lib.hid (show rightM ⟨kind, fs, fn, ts, tn, id, n, fo, code, key, recs, vec, path, hashes, route⟩ = (inB 1 17 kind && (placeB fs fn && (placeB ts tn && (decide (0 ≤ id) && (decide (0 ≤ n) && (inB 0 8 fo && (inB 0 999 code && (decide ((key.size : Int) ≤ 32) &&
    (allB rightR nr recs && (allB (inB 0 4611686018427387904) 16 vec && (allB (inB 0 15) 2 path && (decide ((nh : Int) ≤ 16) && allB (inB 1 16) 16 route)))))))))))) from rightM_mem HM.out)
  unfold Mx.cells at *
  simp only at hS HB0 q1 q2 q3 q4 q5 q6 q7 q8 q9 q10 q11
  have HS := Lib.hid (fun (W : World) (b : _) => And.intro (hS W b 0 _ rfl) (And.intro (hS W b 1 _ rfl) (And.intro (hS W b 2 _ rfl) (And.intro (hS W b 3 _ rfl) (And.intro (hS W b 4 _ rfl) (And.intro (hS W b 5 _ rfl) (And.intro (hS W b 6 _ rfl) (And.intro (hS W b 7 _ rfl) (And.intro (hS W b 8 _ rfl) (And.intro (hS W b 9 _ rfl) (And.intro (hS W b 10 _ rfl) (And.intro (hS W b 11 _ rfl) (And.intro (hS W b 12 _ rfl) (And.intro (hS W b 13 _ rfl) (hS W b 14 _ rfl)))))))))))))))
  clear hS
  have v1a : decide (kind ≥ 1) = true := decide_eq_true (by omega)
  have v1b : decide (1 ≤ kind) = true := decide_eq_true (by omega)
  have v2a : decide (kind ≤ 17) = true := decide_eq_true (by omega)
  have v5a : decide (id ≥ 0) = true := decide_eq_true (by omega)
  have v5b : decide (0 ≤ id) = true := decide_eq_true (by omega)
  have v6a : decide (n ≥ 0) = true := decide_eq_true (by omega)
  have v6b : decide (0 ≤ n) = true := decide_eq_true (by omega)
  have v7a : decide (fo ≥ 0) = true := decide_eq_true (by omega)
  have v7b : decide (0 ≤ fo) = true := decide_eq_true (by omega)
  have v8a : decide (fo ≤ 8) = true := decide_eq_true (by omega)
  have v9a : decide (code ≥ 0) = true := decide_eq_true (by omega)
  have v9b : decide (0 ≤ code) = true := decide_eq_true (by omega)
  have v10a : decide (code ≤ 999) = true := decide_eq_true (by omega)
  have v11a : decide ((key.size : Int) ≤ 32) = false := decide_eq_false (by omega)
  have C3 := Lib.hid (fun W : Ext (w.alloc (.cells #[.int .i64 kind, .int .i64 fs, .int .i64 fn, .int .i64 ts, .int .i64 tn, .int .i64 id, .int .i64 n, .int .i64 fo, .int .i64 code, .string key, .slice Ar nr cr, .slice Av nv cv, .slice Ap np cp, .slice Ah nh ch, .slice Ao no co] 30)) => (show Calls _ _ _ W.w (BoolE W.w true) from by rw [← q3]; exact place_any fs fn W.w))
  have C4 := Lib.hid (fun W : Ext (w.alloc (.cells #[.int .i64 kind, .int .i64 fs, .int .i64 fn, .int .i64 ts, .int .i64 tn, .int .i64 id, .int .i64 n, .int .i64 fo, .int .i64 code, .string key, .slice Ar nr cr, .slice Av nv cv, .slice Ap np cp, .slice Ah nh ch, .slice Ao no co] 30)) => (show Calls _ _ _ W.w (BoolE W.w true) from by rw [← q4]; exact place_any ts tn W.w))
  obtain ⟨r0, r1, r2, r3, r4, r5, r6, r7, r8, r9, r10, r11, r12, r13, r14⟩ := HS.out _ (Below.refl _ _)
  have G0 := Ext.cell r0
  have G1 := Ext.cell r1
  have G2 := Ext.cell r2
  have G3 := Ext.cell r3
  have G4 := Ext.cell r4
  have G5 := Ext.cell r5
  have G6 := Ext.cell r6
  have G7 := Ext.cell r7
  have G8 := Ext.cell r8
  have G9 := Ext.cell r9
  have G10 := Ext.cell r10
  have G11 := Ext.cell r11
  have G12 := Ext.cell r12
  have G13 := Ext.cell r13
  have G14 := Ext.cell r14
  clear r0 r1 r2 r3 r4 r5 r6 r7 r8 r9 r10 r11 r12 r13 r14 HS
  have HE := Lib.hid (HE.out.trans (show _ = false by simp [inB, q11]))
  clear q1 q2 q3 q4 q5 q6 q7 q8 q9 q10 q11
  go_enter Try.func13, Try.ntmps13
  go_wp2_with fail
  refine wp_region_ext (by kernel_rfl) (by kernel_rfl) ?_
  simp only [List.append_eq, List.cons_append, List.nil_append]
  repeat (go_big_quiet_step (first | (go_at_call 45; with_reducible exact Calls.ext_of (C3.out _)) | (go_at_call 45; with_reducible exact Calls.ext_of (C4.out _)) | (go_at_call 46; with_reducible exact Calls.ext_of (C12.out _))))
  refine wpQuiet_nil ?_
  intro w1 hw1
  have B1 := Lib.hid (HB0.out.trans ((ext_end hw1).mono HB0.out.size))
  clear hw1 G0 G1 G2 G3 G4 G5 G6 G7 G8 G9 G10 G11 G12 G13 G14
  go_wp2
  go_ret
  exact BoolE.of HE.out.symm B1.out
set_option maxHeartbeats 8000000 in
set_option maxRecDepth 100000 in
theorem rightMsg_no12 (x : Mx) (w : World) (hv : MRow w x) (q1 : 1 ≤ x.m.kind) (q2 : x.m.kind ≤ 17) (q3 : placeB x.m.fs x.m.fn = true) (q4 : placeB x.m.ts x.m.tn = true) (q5 : 0 ≤ x.m.id) (q6 : 0 ≤ x.m.n) (q7 : 0 ≤ x.m.fo) (q8 : x.m.fo ≤ 8) (q9 : 0 ≤ x.m.code) (q10 : x.m.code ≤ 999) (q11 : (x.m.key.size : Int) ≤ 32) (q12 : allB rightR x.nr x.m.recs = false) : Calls Try.prog 13 #[.agg x.cells] w (BoolE w (rightM x.m)) := by
  have bA : Below w.heap.size w (w.alloc (.cells x.cells 30)) := (Below.refl _ _).alloc (Nat.le_refl _) _
  have hbx := heap_alloc_new w (.cells x.cells 30)
  have HB0 := Lib.hid bA
  have hS := fun (W : World) (b : Below (w.alloc (.cells x.cells 30)).heap.size (w.alloc (.cells x.cells 30)) W) => Mx.cell ((b.block w.heap.size (by simp)).trans hbx)
  have HM := Lib.hid hv
  clear hv bA hbx
  obtain ⟨⟨kind, fs, fn, ts, tn, id, n, fo, code, key, recs, vec, path, hashes, route⟩, Ar, nr, cr, Av, nv, cv, Ap, np, cp, Ah, nh, ch, Ao, no, co⟩ := x
  have HE := Lib.hid (show rightM ⟨kind, fs, fn, ts, tn, id, n, fo, code, key, recs, vec, path, hashes, route⟩ = (inB 1 17 kind && (placeB fs fn && (placeB ts tn && (decide (0 ≤ id) && (decide (0 ≤ n) && (inB 0 8 fo && (inB 0 999 code && (decide ((key.size : Int) ≤ 32) &&
    (allB rightR nr recs && (allB (inB 0 4611686018427387904) 16 vec && (allB (inB 0 15) 2 path && (decide ((nh : Int) ≤ 16) && allB (inB 1 16) 16 route)))))))))))) from rightM_mem HM.out)
  unfold Mx.cells at *
  simp only at hS HB0 q1 q2 q3 q4 q5 q6 q7 q8 q9 q10 q11 q12
  have HS := Lib.hid (fun (W : World) (b : _) => And.intro (hS W b 0 _ rfl) (And.intro (hS W b 1 _ rfl) (And.intro (hS W b 2 _ rfl) (And.intro (hS W b 3 _ rfl) (And.intro (hS W b 4 _ rfl) (And.intro (hS W b 5 _ rfl) (And.intro (hS W b 6 _ rfl) (And.intro (hS W b 7 _ rfl) (And.intro (hS W b 8 _ rfl) (And.intro (hS W b 9 _ rfl) (And.intro (hS W b 10 _ rfl) (And.intro (hS W b 11 _ rfl) (And.intro (hS W b 12 _ rfl) (And.intro (hS W b 13 _ rfl) (hS W b 14 _ rfl)))))))))))))))
  clear hS
  have v1a : decide (kind ≥ 1) = true := decide_eq_true (by omega)
  have v1b : decide (1 ≤ kind) = true := decide_eq_true (by omega)
  have v2a : decide (kind ≤ 17) = true := decide_eq_true (by omega)
  have v5a : decide (id ≥ 0) = true := decide_eq_true (by omega)
  have v5b : decide (0 ≤ id) = true := decide_eq_true (by omega)
  have v6a : decide (n ≥ 0) = true := decide_eq_true (by omega)
  have v6b : decide (0 ≤ n) = true := decide_eq_true (by omega)
  have v7a : decide (fo ≥ 0) = true := decide_eq_true (by omega)
  have v7b : decide (0 ≤ fo) = true := decide_eq_true (by omega)
  have v8a : decide (fo ≤ 8) = true := decide_eq_true (by omega)
  have v9a : decide (code ≥ 0) = true := decide_eq_true (by omega)
  have v9b : decide (0 ≤ code) = true := decide_eq_true (by omega)
  have v10a : decide (code ≤ 999) = true := decide_eq_true (by omega)
  have v11a : decide ((key.size : Int) ≤ 32) = true := decide_eq_true (by omega)
  have C3 := Lib.hid (fun W : Ext (w.alloc (.cells #[.int .i64 kind, .int .i64 fs, .int .i64 fn, .int .i64 ts, .int .i64 tn, .int .i64 id, .int .i64 n, .int .i64 fo, .int .i64 code, .string key, .slice Ar nr cr, .slice Av nv cv, .slice Ap np cp, .slice Ah nh ch, .slice Ao no co] 30)) => (show Calls _ _ _ W.w (BoolE W.w true) from by rw [← q3]; exact place_any fs fn W.w))
  have C4 := Lib.hid (fun W : Ext (w.alloc (.cells #[.int .i64 kind, .int .i64 fs, .int .i64 fn, .int .i64 ts, .int .i64 tn, .int .i64 id, .int .i64 n, .int .i64 fo, .int .i64 code, .string key, .slice Ar nr cr, .slice Av nv cv, .slice Ap np cp, .slice Ah nh ch, .slice Ao no co] 30)) => (show Calls _ _ _ W.w (BoolE W.w true) from by rw [← q4]; exact place_any ts tn W.w))
  have C12 := Lib.hid (fun W : Ext (w.alloc (.cells #[.int .i64 kind, .int .i64 fs, .int .i64 fn, .int .i64 ts, .int .i64 tn, .int .i64 id, .int .i64 n, .int .i64 fo, .int .i64 code, .string key, .slice Ar nr cr, .slice Av nv cv, .slice Ap np cp, .slice Ah nh ch, .slice Ao no co] 30)) => (show Calls _ _ _ W.w (BoolE W.w false) from by rw [← q12]; exact allRec_any Ar nr cr nr recs W.w (HM.out.recs.below (HB0.out.trans (W.below.mono HB0.out.size))) (by have := HM.out.lr; simp only at this; omega)))
  obtain ⟨r0, r1, r2, r3, r4, r5, r6, r7, r8, r9, r10, r11, r12, r13, r14⟩ := HS.out _ (Below.refl _ _)
  have G0 := Ext.cell r0
  have G1 := Ext.cell r1
  have G2 := Ext.cell r2
  have G3 := Ext.cell r3
  have G4 := Ext.cell r4
  have G5 := Ext.cell r5
  have G6 := Ext.cell r6
  have G7 := Ext.cell r7
  have G8 := Ext.cell r8
  have G9 := Ext.cell r9
  have G10 := Ext.cell r10
  have G11 := Ext.cell r11
  have G12 := Ext.cell r12
  have G13 := Ext.cell r13
  have G14 := Ext.cell r14
  clear r0 r1 r2 r3 r4 r5 r6 r7 r8 r9 r10 r11 r12 r13 r14 HS
  have HE := Lib.hid (HE.out.trans (show _ = false by simp [inB, q12]))
  clear q1 q2 q3 q4 q5 q6 q7 q8 q9 q10 q11 q12
  go_enter Try.func13, Try.ntmps13
  go_wp2_with fail
  refine wp_region_ext (by kernel_rfl) (by kernel_rfl) ?_
  simp only [List.append_eq, List.cons_append, List.nil_append]
  repeat (go_big_quiet_step (first | (go_at_call 45; with_reducible exact Calls.ext_of (C3.out _)) | (go_at_call 45; with_reducible exact Calls.ext_of (C4.out _)) | (go_at_call 46; with_reducible exact Calls.ext_of (C12.out _))))
  refine wpQuiet_nil ?_
  intro w1 hw1
  have B1 := Lib.hid (HB0.out.trans ((ext_end hw1).mono HB0.out.size))
  clear hw1 G0 G1 G2 G3 G4 G5 G6 G7 G8 G9 G10 G11 G12 G13 G14
  go_wp2
  go_ret
  exact BoolE.of HE.out.symm B1.out
end Go.Proofs.Ytgnedaihchmoaaa
