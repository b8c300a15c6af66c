/-
  firthlaw06.awake.
-/
import Derived.Test.YtgnedaihchmoaaaCodeSameMsg
import Derived.Test.YtgnedaihchmoaaaCodeMsgTop
namespace Go.Proofs.Ytgnedaihchmoaaa
open Go.RowKit
set_option linter.unusedVariables false

def helloM : Mg := ⟨3, 1, 0, 2, 8, 0, 0, 0, 0, ⟨#[107]⟩, [], [], [], [], []⟩
def helloX : Mx := ⟨helloM, none, 0, 0, none, 0, 0, none, 0, 0, none, 0, 0, none, 0, 0⟩
theorem helloX_row (w : World) : MRow w helloX := by
  refine ⟨SlR.nil _ _, Sl.nil _ _ _, Sl.nil _ _ _, Sl.nil _ _ _, Sl.nil _ _ _, ?_, ?_, ?_, ?_, ?_, ?_, ?_, ?_, ?_, ?_, ?_, ?_, ?_, ?_⟩ <;> first | decide | (intro h hh; cases hh)
theorem hello_right : RightM helloM := by
  refine ⟨?_, ?_, ?_, ?_, ?_, ?_, ?_, ?_, ?_, ?_, ?_, ?_, ?_⟩ <;> first | decide | (intro h hh; cases hh) | (refine ⟨?_, ?_⟩ <;> first | decide | (intro h hh; cases hh))
theorem hello_len : (msgB helloM).length ≤ 1048576 := by
  have h := putMsg_len (kind := 3) (fs := 1) (fn := 0) (ts := 2) (tn := 8) (id := 0) (n := 0) (fo := 0) (code := 0) (key := ⟨#[107]⟩) (recs := []) (vec := []) (path := []) (hashes := []) (route := []) hello_right (by simp)
  have h2 := listB_len recB 0 [] (by simp)
  obtain ⟨t1, t2, t3, t4, t5, t6, t7, t8, t9, t10, t11, t12, t13⟩ := h
  unfold msgB helloM
  simp only [List.length_append] at *
  simp only [List.length_nil] at h2
  omega
theorem hello_put : putMsgE helloM = (putF (msgB helloM), 0) := putMsgE_ok (rightM_true.2 hello_right) hello_len
theorem hello_wf : WfM helloM := ⟨by decide, by decide, by decide, by intro x hx; cases hx⟩
theorem hello_rd : msgRd (putF (msgB helloM)) = (some helloM, 0) := by
  have h := (msgRd_iff (putF (msgB helloM)) helloM).2 ⟨rightM_true.2 hello_right, hello_wf, hello_len, rfl⟩
  exact Prod.ext h (msgRd_ok h)
theorem hello_flen : (putF (msgB helloM)).length ≤ 1048600 := by
  rw [putF_len]
  have := hello_len
  have := putNum_len (msgB helloM).length
  omega
theorem set13 : putSetE [(1, 1, 3)] = ([1, 1, 1, 2], 0) := by
  have h : rightS [(1, 1, 3)] = true := by
    rw [rightS_true]
    refine ⟨⟨?_, ?_⟩, ?_⟩
    · intro x hx; rw [List.mem_singleton.1 hx]; unfold okSp; decide
    · simp
    · decide
  unfold putSetE
  rw [if_pos h]
  rfl
def HelloV (w : World) (e : Ending) (w' : World) : Prop := e = .returned (.agg #[.int .i64 3, .int .i64 1, .int .i64 0, .int .i64 2, .int .i64 8, .int .i64 0, .int .i64 0, .int .i64 0, .int .i64 0, .string ⟨#[107]⟩, .slice none 0 0, .slice none 0 0, .slice none 0 0, .slice none 0 0, .slice none 0 0]) ∧ Below w.heap.size w w'
set_option maxHeartbeats 1000000 in
set_option maxRecDepth 100000 in
theorem hello_any (w : World) : Calls Try.prog 44 #[] w (HelloV w) := by
  go_enter Try.func44, Try.ntmps44
  go_wp2
  refine bodyPost_ret (v := .agg #[.int .i64 3, .int .i64 1, .int .i64 0, .int .i64 2, .int .i64 8, .int .i64 0, .int .i64 0, .int .i64 0, .int .i64 0, .string ⟨#[107]⟩, .slice none 0 0, .slice none 0 0, .slice none 0 0, .slice none 0 0, .slice none 0 0]) ?_ rfl ⟨rfl, (Below.refl _ _).alloc (Nat.le_refl _) _⟩
  simp [results, Try.results44, go_sem]
set_option maxHeartbeats 8000000 in
set_option maxRecDepth 100000 in
theorem awake_any (w : World) : Calls Try.prog 12 #[] w (BoolE w true) := by
  have bA : Below w.heap.size w (w.alloc (.cells #[.int .i64 1, .int .i64 1, .int .i64 3] 55)) := (Below.refl _ _).alloc (Nat.le_refl _) _
  have c1 := putSet_any _ (some ⟨w.heap.size, 0, none⟩) 1 1 [(1, 1, 3)] (sl_lit w #[.int .i64 1, .int .i64 1, .int .i64 3] 55 w.heap.size 1 3 _ rfl rfl rfl) (by omega)
  rw [set13] at c1
  have C1 := Lib.hid c1
  have HA := Lib.hid bA
  clear bA c1
  go_enter Try.func12, Try.ntmps12
  go_wp2_with fail
  refine C1.out.mono ?_
  rintro e w1 ⟨A1, n1, c1, rfl, s1, hc1, hm1, b1, o1⟩
  have HB1 := Lib.hid (HA.out.trans (b1.mono HA.out.size))
  have HS1 := Lib.hid s1
  have C2 := Lib.hid (hello_any w1)
  clear s1 b1 o1 C1 HA
  go_wp2_with fail
  refine C2.out.mono ?_
  rintro e w2 ⟨rfl, b2⟩
  have HB2 := Lib.hid (HB1.out.trans (b2.mono HB1.out.size))
  have HS2 := Lib.hid (Sl.below HS1.out b2)
  have c3 := putMsg_any w2 helloX (helloX_row w2) (by decide)
  rw [show helloX.m = helloM from rfl, hello_put] at c3
  obtain ⟨L, hL⟩ : ∃ L, putF (msgB helloM) = L := ⟨_, rfl⟩
  have hLr := hello_rd
  have hLn := hello_flen
  simp only [hL] at c3 hLr hLn
  have HLr := Lib.hid hLr
  clear hL hLr
  have C3 := Lib.hid (show Calls Try.prog 10 #[.agg #[.int .i64 3, .int .i64 1, .int .i64 0, .int .i64 2, .int .i64 8, .int .i64 0, .int .i64 0, .int .i64 0, .int .i64 0, .string ⟨#[107]⟩, .slice none 0 0, .slice none 0 0, .slice none 0 0, .slice none 0 0, .slice none 0 0]] w2 (NewBytesE w2 L 0) from c3)
  clear b2 C2 c3 HB1 HS1
  go_wp2_with fail
  refine C3.out.mono ?_
  rintro e w3 ⟨A3, n3, c3, rfl, s3, hc3, hm3, b3, o3⟩
  have HB3 := Lib.hid (HB2.out.trans (b3.mono HB2.out.size))
  have HS3 := Lib.hid (Sl.below HS2.out b3)
  have c4 := msg_any w3 A3 n3 c3 L s3 hc3 (by have := s3.len; omega)
  rw [HLr.out] at c4
  have C4 := Lib.hid c4
  clear b3 C3 c4 HB2 HS2 s3 o3
  go_wp2_with fail
  refine C4.out.mono ?_
  rintro e w4 ⟨v, rfl, ⟨x, hm, hv, hO⟩, b4⟩
  have HR := Lib.hid hO.row
  have HM := Lib.hid hm
  obtain ⟨⟨kind, fs, fn, ts, tn, id, n, fo, code, key, recs, vec, path, hashes, route⟩, Ar, nr, cr, Av, nv, cv, Ap, np, cp, Ah, nh, ch, Ao, no, co⟩ := x
  simp only [Mx.cells] at hv HM HR
  subst hv
  have HB4 := Lib.hid (HB3.out.trans (b4.mono HB3.out.size))
  have HS4 := Lib.hid (Sl.below HS3.out b4)
  have b5 : Below w4.heap.size w4 (w4.alloc (.cells #[.int .i64 kind, .int .i64 fs, .int .i64 fn, .int .i64 ts, .int .i64 tn, .int .i64 id, .int .i64 n, .int .i64 fo, .int .i64 code, .string key, .slice Ar nr cr, .slice Av nv cv, .slice Ap np cp, .slice Ah nh ch, .slice Ao no co] 30)) := (Below.refl _ _).alloc (Nat.le_refl _) _
  have hb := heap_alloc_new w4 (.cells #[.int .i64 kind, .int .i64 fs, .int .i64 fn, .int .i64 ts, .int .i64 tn, .int .i64 id, .int .i64 n, .int .i64 fo, .int .i64 code, .string key, .slice Ar nr cr, .slice Av nv cv, .slice Ap np cp, .slice Ah nh ch, .slice Ao no co] 30)
  have X0 := Ext.cell (row_cell (j := 0) hb rfl)
  have X1 := Ext.cell (row_cell (j := 1) hb rfl)
  have X2 := Ext.cell (row_cell (j := 2) hb rfl)
  have X3 := Ext.cell (row_cell (j := 3) hb rfl)
  have X4 := Ext.cell (row_cell (j := 4) hb rfl)
  have X5 := Ext.cell (row_cell (j := 5) hb rfl)
  have X6 := Ext.cell (row_cell (j := 6) hb rfl)
  have X7 := Ext.cell (row_cell (j := 7) hb rfl)
  have X8 := Ext.cell (row_cell (j := 8) hb rfl)
  have X9 := Ext.cell (row_cell (j := 9) hb rfl)
  have X10 := Ext.cell (row_cell (j := 10) hb rfl)
  have X11 := Ext.cell (row_cell (j := 11) hb rfl)
  have X12 := Ext.cell (row_cell (j := 12) hb rfl)
  have X13 := Ext.cell (row_cell (j := 13) hb rfl)
  have X14 := Ext.cell (row_cell (j := 14) hb rfl)
  have HB5 := Lib.hid (HB4.out.trans (b5.mono HB4.out.size))
  have HC := Lib.hid (fun z : Ext (w4.alloc (.cells #[.int .i64 kind, .int .i64 fs, .int .i64 fn, .int .i64 ts, .int .i64 tn, .int .i64 id, .int .i64 n, .int .i64 fo, .int .i64 code, .string key, .slice Ar nr cr, .slice Av nv cv, .slice Ap np cp, .slice Ah nh ch, .slice Ao no co] 30)) => (show Calls Try.prog 17 #[.agg #[.int .i64 kind, .int .i64 fs, .int .i64 fn, .int .i64 ts, .int .i64 tn, .int .i64 id, .int .i64 n, .int .i64 fo, .int .i64 code, .string key, .slice Ar nr cr, .slice Av nv cv, .slice Ap np cp, .slice Ah nh ch, .slice Ao no co], .agg #[.int .i64 3, .int .i64 1, .int .i64 0, .int .i64 2, .int .i64 8, .int .i64 0, .int .i64 0, .int .i64 0, .int .i64 0, .string ⟨#[107]⟩, .slice none 0 0, .slice none 0 0, .slice none 0 0, .slice none 0 0, .slice none 0 0]] z.w (BoolE z.w true) from
    same_true ⟨⟨kind, fs, fn, ts, tn, id, n, fo, code, key, recs, vec, path, hashes, route⟩, Ar, nr, cr, Av, nv, cv, Ap, np, cp, Ah, nh, ch, Ao, no, co⟩ helloX HM.out z.w ((HR.out.below b5).below z.below) (helloX_row _)))
  have HD := Lib.hid (fun z : Ext (w4.alloc (.cells #[.int .i64 kind, .int .i64 fs, .int .i64 fn, .int .i64 ts, .int .i64 tn, .int .i64 id, .int .i64 n, .int .i64 fo, .int .i64 code, .string key, .slice Ar nr cr, .slice Av nv cv, .slice Ap np cp, .slice Ah nh ch, .slice Ao no co] 30)) => hello_any z.w)
  have hcv := fun z : Ext (w4.alloc (.cells #[.int .i64 kind, .int .i64 fs, .int .i64 fn, .int .i64 ts, .int .i64 tn, .int .i64 id, .int .i64 n, .int .i64 fo, .int .i64 code, .string key, .slice Ar nr cr, .slice Av nv cv, .slice Ap np cp, .slice Ah nh ch, .slice Ao no co] 30)) => run_convert_SlB (P := Try.prog) (Sl.below (Sl.below HS4.out b5) z.below) 31 5 9 Try.underlying31 Try.underlying5 Try.underlying9 c1
  clear hm b4 hO C4 HB3 HS3 b5 hb HM HR HS4 HB4
  go_wp2_with fail
  refine wp_region_ext (by kernel_rfl) (by kernel_rfl) ?_
  repeat (go_big_quiet_step (first | (go_at_call 44; exact Calls.ext_of (HD.out _)) | (go_at_call 17; exact Calls.ext_of (HC.out _))))
  refine wpQuiet_nil ?_
  intro w6 hw6
  have HB6 := Lib.hid (HB5.out.trans ((ext_end hw6).mono HB5.out.size))
  clear hw6 HC HD hcv HB5
  go_wp2
  go_ret
  exact ⟨rfl, HB6.out⟩
end Go.Proofs.Ytgnedaihchmoaaa
