/-
  firthref06.Msg: joined. (Printed by tools/refread2.py.)
-/
import Derived.Test.YtgnedaihchmoaaaCodeRefMsgK
import Derived.Test.YtgnedaihchmoaaaMJ
import Derived.Test.YtgnedaihchmoaaaCodeRefMsgLh
import Derived.Test.YtgnedaihchmoaaaCodeRefMsgT
import Derived.Deep.LoopGhost
import Derived.Deep.CutBlock
namespace Go.Proofs.Ytgnedaihchmoaaa
open Go.RowKit
set_option linter.unusedVariables false

set_option maxHeartbeats 20000000 in
set_option maxRecDepth 100000 in
theorem refMsg_err (w : World) (A : Option Addr) (n c : Nat) (L : List UInt8) (hs : SlB w A n L) (hc : n ≤ c) (h9 : n ≤ 140737488351232) (x : Int) (hn : nextF L 0 = .error x) :
    Calls Try.prog 16 #[.slice A n c] w (MsgAns w (msgRd L).1 (msgRd L).2) := by
  have bA : Below w.heap.size w (w.alloc (.cells #[.int .i64 0, .int .i64 0, .int .i64 0, .int .i64 0, .int .i64 0, .int .i64 0, .int .i64 0, .int .i64 0, .int .i64 0, .string ⟨#[]⟩, .slice none 0 0, .slice none 0 0, .slice none 0 0, .slice none 0 0, .slice none 0 0] 30)) := (Below.refl _ _).alloc (Nat.le_refl _) _
  have hb := heap_alloc_new w (.cells #[.int .i64 0, .int .i64 0, .int .i64 0, .int .i64 0, .int .i64 0, .int .i64 0, .int .i64 0, .int .i64 0, .int .i64 0, .string ⟨#[]⟩, .slice none 0 0, .slice none 0 0, .slice none 0 0, .slice none 0 0, .slice none 0 0] 30)
  have c1 : Calls Try.prog 56 #[.slice A n c, .int .i64 0] _ _ := refNext_any A n c 0 L _ (Sl.below hs bA) hc h9 (Nat.zero_le _)
  rw [hn] at c1
  have HL := Lib.hid hs.len
  have HA := Lib.hid bA
  have HX := Lib.hid hb
  clear hs bA hb
  have C1 := Lib.hid c1
  have hx := nextF_ne hn
  have HN := Lib.hid (msgRd_err hn)
  have t1 : (x == 0) = false := by rw [beq_eq_false_iff_ne]; exact hx
  have t2 : (x != 0) = true := by rw [bne_iff_ne]; exact hx
  clear c1 hn
  go_enter Try.func16, Try.ntmps16
  go_wp2_with fail
  refine C1.out.mono ?_
  rintro e w1 ⟨rfl, b1⟩
  have XZ := Lib.hid (show MBox w1 w.heap.size (.int .i64 0) (.int .i64 0) (.int .i64 0) (.int .i64 0) (.int .i64 0) (.int .i64 0) (.int .i64 0) (.int .i64 0) (.int .i64 0) (.string ⟨#[]⟩) (.slice none 0 0) (.slice none 0 0) (.slice none 0 0) (.slice none 0 0) (.slice none 0 0) from (b1.block _ (lt_of_block HX.out)).trans HX.out)
  have HZ := Lib.hid (HA.out.trans (b1.mono HA.out.size))
  clear b1 C1
  have x0 := mcell (j := 0) XZ.out rfl
  have z0 := frozen_of_row _ _ 0 _ _ XZ.out
  have x1 := mcell (j := 1) XZ.out rfl
  have z1 := frozen_of_row _ _ 1 _ _ XZ.out
  have x2 := mcell (j := 2) XZ.out rfl
  have z2 := frozen_of_row _ _ 2 _ _ XZ.out
  have x3 := mcell (j := 3) XZ.out rfl
  have z3 := frozen_of_row _ _ 3 _ _ XZ.out
  have x4 := mcell (j := 4) XZ.out rfl
  have z4 := frozen_of_row _ _ 4 _ _ XZ.out
  have x5 := mcell (j := 5) XZ.out rfl
  have z5 := frozen_of_row _ _ 5 _ _ XZ.out
  have x6 := mcell (j := 6) XZ.out rfl
  have z6 := frozen_of_row _ _ 6 _ _ XZ.out
  have x7 := mcell (j := 7) XZ.out rfl
  have z7 := frozen_of_row _ _ 7 _ _ XZ.out
  have x8 := mcell (j := 8) XZ.out rfl
  have z8 := frozen_of_row _ _ 8 _ _ XZ.out
  have x9 := mcell (j := 9) XZ.out rfl
  have z9 := frozen_of_row _ _ 9 _ _ XZ.out
  have x10 := mcell (j := 10) XZ.out rfl
  have z10 := frozen_of_row _ _ 10 _ _ XZ.out
  have x11 := mcell (j := 11) XZ.out rfl
  have z11 := frozen_of_row _ _ 11 _ _ XZ.out
  have x12 := mcell (j := 12) XZ.out rfl
  have z12 := frozen_of_row _ _ 12 _ _ XZ.out
  have x13 := mcell (j := 13) XZ.out rfl
  have z13 := frozen_of_row _ _ 13 _ _ XZ.out
  have x14 := mcell (j := 14) XZ.out rfl
  have z14 := frozen_of_row _ _ 14 _ _ XZ.out
  have k1 := (MBox.set14 (MBox.set13 (MBox.set12 (MBox.set11 (MBox.set10 (MBox.set9 (MBox.set8 (MBox.set7 (MBox.set6 (MBox.set5 (MBox.set4 (MBox.set3 (MBox.set2 (MBox.set1 (MBox.set0 XZ.out (.int .i64 0)) (.int .i64 0)) (.int .i64 0)) (.int .i64 0)) (.int .i64 0)) (.int .i64 0)) (.int .i64 0)) (.int .i64 0)) (.int .i64 0)) (.string ⟨#[]⟩)) (.slice none 0 0)) (.slice none 0 0)) (.slice none 0 0)) (.slice none 0 0)) (.slice none 0 0))
  have q0 := mcell (j := 0) k1 rfl
  have q1 := mcell (j := 1) k1 rfl
  have q2 := mcell (j := 2) k1 rfl
  have q3 := mcell (j := 3) k1 rfl
  have q4 := mcell (j := 4) k1 rfl
  have q5 := mcell (j := 5) k1 rfl
  have q6 := mcell (j := 6) k1 rfl
  have q7 := mcell (j := 7) k1 rfl
  have q8 := mcell (j := 8) k1 rfl
  have q9 := mcell (j := 9) k1 rfl
  have q10 := mcell (j := 10) k1 rfl
  have q11 := mcell (j := 11) k1 rfl
  have q12 := mcell (j := 12) k1 rfl
  have q13 := mcell (j := 13) k1 rfl
  have q14 := mcell (j := 14) k1 rfl
  have HE := Lib.hid (show MsgAns w (msgRd L).1 (msgRd L).2 (.returned (.tuple #[.agg #[.int .i64 0, .int .i64 0, .int .i64 0, .int .i64 0, .int .i64 0, .int .i64 0, .int .i64 0, .int .i64 0, .int .i64 0, .string ⟨#[]⟩, .slice none 0 0, .slice none 0 0, .slice none 0 0, .slice none 0 0, .slice none 0 0], .int .i64 x])) _ from by rw [HN.out]; exact MsgAns.no rfl (((((((((((((((HZ.out.setCell (p := ⟨w.heap.size, 0, none⟩) (Nat.le_refl _) (.int .i64 0)).setCell (p := ⟨w.heap.size, 1, none⟩) (Nat.le_refl _) (.int .i64 0)).setCell (p := ⟨w.heap.size, 2, none⟩) (Nat.le_refl _) (.int .i64 0)).setCell (p := ⟨w.heap.size, 3, none⟩) (Nat.le_refl _) (.int .i64 0)).setCell (p := ⟨w.heap.size, 4, none⟩) (Nat.le_refl _) (.int .i64 0)).setCell (p := ⟨w.heap.size, 5, none⟩) (Nat.le_refl _) (.int .i64 0)).setCell (p := ⟨w.heap.size, 6, none⟩) (Nat.le_refl _) (.int .i64 0)).setCell (p := ⟨w.heap.size, 7, none⟩) (Nat.le_refl _) (.int .i64 0)).setCell (p := ⟨w.heap.size, 8, none⟩) (Nat.le_refl _) (.int .i64 0)).setCell (p := ⟨w.heap.size, 9, none⟩) (Nat.le_refl _) (.string ⟨#[]⟩)).setCell (p := ⟨w.heap.size, 10, none⟩) (Nat.le_refl _) (.slice none 0 0)).setCell (p := ⟨w.heap.size, 11, none⟩) (Nat.le_refl _) (.slice none 0 0)).setCell (p := ⟨w.heap.size, 12, none⟩) (Nat.le_refl _) (.slice none 0 0)).setCell (p := ⟨w.heap.size, 13, none⟩) (Nat.le_refl _) (.slice none 0 0)).setCell (p := ⟨w.heap.size, 14, none⟩) (Nat.le_refl _) (.slice none 0 0)))
  have HQ := Lib.hid (And.intro q0 (And.intro q1 (And.intro q2 (And.intro q3 (And.intro q4 (And.intro q5 (And.intro q6 (And.intro q7 (And.intro q8 (And.intro q9 (And.intro q10 (And.intro q11 (And.intro q12 (And.intro q13 (q14)))))))))))))))
  clear k1 q0 q1 q2 q3 q4 q5 q6 q7 q8 q9 q10 q11 q12 q13 q14
  go_wp2
  obtain ⟨q0, q1, q2, q3, q4, q5, q6, q7, q8, q9, q10, q11, q12, q13, q14⟩ := HQ.out
  refine bodyPost_ret (v := .tuple #[.agg #[.int .i64 0, .int .i64 0, .int .i64 0, .int .i64 0, .int .i64 0, .int .i64 0, .int .i64 0, .int .i64 0, .int .i64 0, .string ⟨#[]⟩, .slice none 0 0, .slice none 0 0, .slice none 0 0, .slice none 0 0, .slice none 0 0], .int .i64 x]) ?_ rfl HE.out
  simp [results, Try.results16, go_sem, q0, q1, q2, q3, q4, q5, q6, q7, q8, q9, q10, q11, q12, q13, q14]
set_option maxHeartbeats 20000000 in
set_option maxRecDepth 100000 in
theorem refMsg_ok (w : World) (A : Option Addr) (n c : Nat) (L : List UInt8) (hs : SlB w A n L) (hc : n ≤ c) (h9 : n ≤ 140737488351232) (Li : List UInt8) (at0 : Nat) (hn : nextF L 0 = .ok (Li, at0)) :
    Calls Try.prog 16 #[.slice A n c] w (MsgAns w (msgRd L).1 (msgRd L).2) := by
  have bA : Below w.heap.size w (w.alloc (.cells #[.int .i64 0, .int .i64 0, .int .i64 0, .int .i64 0, .int .i64 0, .int .i64 0, .int .i64 0, .int .i64 0, .int .i64 0, .string ⟨#[]⟩, .slice none 0 0, .slice none 0 0, .slice none 0 0, .slice none 0 0, .slice none 0 0] 30)) := (Below.refl _ _).alloc (Nat.le_refl _) _
  have hb := heap_alloc_new w (.cells #[.int .i64 0, .int .i64 0, .int .i64 0, .int .i64 0, .int .i64 0, .int .i64 0, .int .i64 0, .int .i64 0, .int .i64 0, .string ⟨#[]⟩, .slice none 0 0, .slice none 0 0, .slice none 0 0, .slice none 0 0, .slice none 0 0] 30)
  have c1 : Calls Try.prog 56 #[.slice A n c, .int .i64 0] _ _ := refNext_any A n c 0 L _ (Sl.below hs bA) hc h9 (Nat.zero_le _)
  rw [hn] at c1
  have HL := Lib.hid hs.len
  have HA := Lib.hid bA
  have HX := Lib.hid hb
  clear hs bA hb
  obtain ⟨i0, hi, hz0, hz1, hz2⟩ := info_parts Try.infoRecc
  obtain ⟨i1, ji, jz0, jz1, jz2⟩ := info_parts Try.infoI64c
  obtain ⟨i2, li, lz0, lz1, lz2⟩ := info_parts Try.infoIntc
  obtain ⟨i3, ki, kz0, kz1, kz2⟩ := info_parts Try.infoU64c
  have C1 := Lib.hid c1
  have HNX := Lib.hid hn
  have hli := (nextF_ok hn).1
  clear c1 hn
  go_enter Try.func16, Try.ntmps16
  go_wp2_with fail
  refine C1.out.mono ?_
  rintro e w1 ⟨Ai, ni, ci, rfl, si, hci, -, b1⟩
  have hni : ni ≤ 1048576 := by have := si.len; omega
  have HLI := Lib.hid si.len
  have hX1 := (b1.block _ (lt_of_block HX.out)).trans HX.out
  have HB1 := HA.out.trans (b1.mono HA.out.size)
  have bR : Below w1.heap.size w1 (w1.alloc (.cells #[.slice Ai ni ci, .int .i64 0, .bool false] 109)) := (Below.refl _ _).alloc (Nat.le_refl _) _
  have hq0 := qst_at2 w1 Ai ni ci w1.heap.size Li rfl si hci (by omega)
  have C := Lib.hid (qnum_int hq0)
  have hbox := (bR.block _ (lt_of_block hX1)).trans hX1
  have hbb := HB1.trans (bR.mono HB1.size)
  have hlw : w.heap.size < w1.heap.size := lt_of_block hX1
  have hsz : (w1.alloc (.cells #[.slice Ai ni ci, .int .i64 0, .bool false] 109)).heap.size = w1.heap.size + 1 := by simp
  obtain ⟨wb, hwb⟩ : ∃ wb, (w1.alloc (.cells #[.slice Ai ni ci, .int .i64 0, .bool false] 109)) = wb := ⟨_, rfl⟩
  rw [hwb] at hbox hbb hsz
  have HBB := Lib.hid hbb
  have HBX := Lib.hid (show MBox wb w.heap.size (.int .i64 0) (.int .i64 0) (.int .i64 0) (.int .i64 0) (.int .i64 0) (.int .i64 0) (.int .i64 0) (.int .i64 0) (.int .i64 0) (.string ⟨#[]⟩) (.slice none 0 0) (.slice none 0 0) (.slice none 0 0) (.slice none 0 0) (.slice none 0 0) from hbox)
  have HWE := Lib.hid hwb
  have hlb : w1.heap.size < wb.heap.size := by omega
  have HFAR := Lib.hid (fun (b off : Nat) (s' : Option Nat) (hn : 0 < ni) (e : Ai = some ⟨b, off, s'⟩) => (show b < wb.heap.size by have := Sl.blk_lt si (b := b) (off := off) (s := s') (by omega) e; omega))
  clear si b1 hX1 HB1 bR hq0 hbox hbb hwb hsz C1 HA HX hli
  go_wp2_with fail
  refine C.out.mono ?_
  rintro e w2 ⟨_, kind, a1, b1, rfl, ⟨rfl, hl0, hu0⟩, hq, f, q⟩
  rw [HWE.out] at f
  have hl2 := f.size
  have HM1 := Lib.hid (MSt.start (v0 := .int .i64 kind) (v1 := .int .i64 0) (v2 := .int .i64 0) (v3 := .int .i64 0) (v4 := .int .i64 0) (v5 := .int .i64 0) (v6 := .int .i64 0) (v7 := .int .i64 0) (v8 := .int .i64 0) (v9 := .string ⟨#[]⟩) (v10 := .slice none 0 0) (v11 := .slice none 0 0) (v12 := .slice none 0 0) (v13 := .slice none 0 0) (v14 := .slice none 0 0) hq f (HBX.out.fr f (by omega)) HFAR.out (by omega) (by omega) (by omega) (show w2.heap.size = w2.heap.size from rfl))
  have HG1 := Lib.hid ((show QG (gMsg okQ Li 0) false (gMsg okQ Li 0) from QG.start (gMsg okQ Li 0) false).step q)
  clear hq f q C HBX
  have C := Lib.hid (qaddr_one HM1.out.st)
  go_wp2_with fail
  refine C.out.mono ?_
  rintro e w3 ⟨_, ⟨fs, fn⟩, a2, b2, rfl, rfl, hq, f, q⟩
  have HMc := HM1.out.call hq f
  have u1 := mcell (j := 1) HMc.b8 rfl
  have z1 := frozen_of_row _ _ 1 _ _ HMc.b8
  have u2 := mcell (j := 2) HMc.b8 rfl
  have z2 := frozen_of_row _ _ 2 _ _ HMc.b8
  have HM2 := Lib.hid ((HMc.store 1 (.int .i64 fs) rfl).store 2 (.int .i64 fn) rfl)
  have HG2 := Lib.hid (HG1.out.stepA q)
  clear hq f q C HM1 HG1 HMc
  have C := Lib.hid (qaddr_one HM2.out.st)
  go_wp2_with fail
  refine C.out.mono ?_
  rintro e w4 ⟨_, ⟨ts, tn⟩, a3, b3, rfl, rfl, hq, f, q⟩
  clear u1 z1 u2 z2 
  have HMc := HM2.out.call hq f
  have u3 := mcell (j := 3) HMc.b8 rfl
  have z3 := frozen_of_row _ _ 3 _ _ HMc.b8
  have u4 := mcell (j := 4) HMc.b8 rfl
  have z4 := frozen_of_row _ _ 4 _ _ HMc.b8
  have HM3 := Lib.hid ((HMc.store 3 (.int .i64 ts) rfl).store 4 (.int .i64 tn) rfl)
  have HG3 := Lib.hid (HG2.out.stepA q)
  clear hq f q C HM2 HG2 HMc
  have C := Lib.hid (qnum_int HM3.out.st)
  go_wp2_with fail
  refine C.out.mono ?_
  rintro e w5 ⟨_, id, a4, b4, rfl, ⟨rfl, hl4, hu4⟩, hq, f, q⟩
  clear u3 z3 u4 z4 
  have HMc := HM3.out.call hq f
  have u5 := mcell (j := 5) HMc.b8 rfl
  have z5 := frozen_of_row _ _ 5 _ _ HMc.b8
  have HM4 := Lib.hid (HMc.store 5 (.int .i64 id) rfl)
  have HG4 := Lib.hid (HG3.out.step q)
  clear hq f q C HM3 HG3 HMc
  have C := Lib.hid (qnum_int HM4.out.st)
  go_wp2_with fail
  refine C.out.mono ?_
  rintro e w6 ⟨_, mn, a5, b5, rfl, ⟨rfl, hl5, hu5⟩, hq, f, q⟩
  clear u5 z5 
  have HMc := HM4.out.call hq f
  have u6 := mcell (j := 6) HMc.b8 rfl
  have z6 := frozen_of_row _ _ 6 _ _ HMc.b8
  have HM5 := Lib.hid (HMc.store 6 (.int .i64 mn) rfl)
  have HG5 := Lib.hid (HG4.out.step q)
  clear hq f q C HM4 HG4 HMc
  have C := Lib.hid (qnum_int HM5.out.st)
  go_wp2_with fail
  refine C.out.mono ?_
  rintro e w7 ⟨_, fo, a6, b6, rfl, ⟨rfl, hl6, hu6⟩, hq, f, q⟩
  clear u6 z6 
  have HMc := HM5.out.call hq f
  have u7 := mcell (j := 7) HMc.b8 rfl
  have z7 := frozen_of_row _ _ 7 _ _ HMc.b8
  have HM6 := Lib.hid (HMc.store 7 (.int .i64 fo) rfl)
  have HG6 := Lib.hid (HG5.out.step q)
  clear hq f q C HM5 HG5 HMc
  have C := Lib.hid (qnum_int HM6.out.st)
  go_wp2_with fail
  refine C.out.mono ?_
  rintro e w8 ⟨_, code, a7, b7, rfl, ⟨rfl, hl7, hu7⟩, hq, f, q⟩
  clear u7 z7 
  have HMc := HM6.out.call hq f
  have u8 := mcell (j := 8) HMc.b8 rfl
  have z8 := frozen_of_row _ _ 8 _ _ HMc.b8
  have HM7 := Lib.hid (HMc.store 8 (.int .i64 code) rfl)
  have HG7 := Lib.hid (HG6.out.step q)
  clear hq f q C HM6 HG6 HMc
  have C := Lib.hid (qtext_one HM7.out.st)
  go_wp2_with fail
  refine C.out.mono ?_
  rintro e w9 ⟨_, key, a8, b8, rfl, ⟨rfl, hkey⟩, hq, f, q⟩
  clear u8 z8 
  have HMc := HM7.out.call hq f
  have u9 := mcell (j := 9) HMc.b8 rfl
  have z9 := frozen_of_row _ _ 9 _ _ HMc.b8
  have HM8 := Lib.hid (HMc.store 9 (.string key) rfl)
  have HG8 := Lib.hid (HG7.out.step q)
  clear hq f q C HM7 HG7 HMc
  have C := qcount_any HM8.out.st
  have hlL := HM8.out.st.len
  have hc := QG.count (p := (gRec okQ)) (k := (fun (recs : List Rc) (a : Nat) => bindP (pTake gInt) (fun (vec : List Int) (a : Nat) => bindP (pTake gInt) (fun (path : List Int) (a : Nat) => bindP (pTake gHash) (fun (hashes : List Int) (a : Nat) => bindP (pTake gInt) (fun (route : List Int) (a : Nat) => some ((⟨kind, fs, fn, ts, tn, id, mn, fo, code, key, recs, vec, path, hashes, route⟩ : Mg), a)) Li a) Li a) Li a) Li a)) HG8.out
  have hsp := qCount_spec (gRec okQ) Li a8 b8
  obtain ⟨q, hq⟩ : ∃ q, qCount Li a8 b8 = q := ⟨_, rfl⟩
  rw [hq] at C hc hsp
  obtain ⟨mr, asr, bsr⟩ := q
  simp only at hsp hc
  have hmr : mr ≤ ni := by
    cases bsr
    · have := (hsp.2 rfl).2.1; omega
    · have := (hsp.1 rfl).1; omega
  have HGr := Lib.hid hc
  have C := Lib.hid C
  clear hsp hc hq hlL HG8
  go_wp2_with fail
  refine C.out.mono ?_
  rintro e wLr ⟨rfl, h2, f2⟩
  simp only at h2
  have HMr := Lib.hid (HM8.out.call h2 f2)
  clear h2 f2 C HM8 u9 z9 
  have hlr : w2.heap.size < wLr.heap.size := lt_of_block HMr.out.b8
  have HFr := Lib.hid (Fr.refl (fun i => i = w1.heap.size ∨ i = w2.heap.size) wLr)
  go_upto_block 0 with fail
  refine rm_loop_r hni (by omega) (by omega) hlr hmr HGr HMr _ _ _ _ _ _ _ _ _ _ _ _ _ _ _ _ _ _ _ _ _ _ _ _ _ _ _ _ _ _ _ _ _ _ _ _ _ _ _ _ _ _ _ _ _ _ _ _ _ _ _ _ _ _ _ _ _ _ _ _ _ _ _ _ _ _ _ _ _ _ _ _ _ _ _ _ _ _ _ _ _ _ _ _ _ _ _ _ _ _ _ _ _ _ _ _ _ _ _ _ _ _ _ _ _ _ _ _ _ _ _ _ _ _ _ _ _ _ _ _ _ _ _ _ _ _ _ _ _ _ _ _ _ _ _ _ _ _ _ _ _ _ _ _ _ _ _ _ _ _ _ _ _ _ _ _ _ _ _ _ _ _ _ _ _ _ _ _ _ _ _ _ _ _ _ _ _ _ _ _ _ _ _ _ _ _ _ _ _ _ _ _ _ _ _ _ _ _ _ (Lib.hid ?_)
  rintro wc ⟨nr, ar, cr, br, Ar, recs, hkr, HGr2, HOr, HMr2, HFr2⟩
  intro z10 z56 z57 z58 z59 z60 z61 z62 z63 z64 z65 z66 z67 z68 z69 z70 z71 z72 z73 z74
  have C := qcount_any HMr2.out.st
  have hlL := HMr2.out.st.len
  have hc := QG.count (p := gInt) (k := (fun (vec : List Int) (a : Nat) => bindP (pTake gInt) (fun (path : List Int) (a : Nat) => bindP (pTake gHash) (fun (hashes : List Int) (a : Nat) => bindP (pTake gInt) (fun (route : List Int) (a : Nat) => some ((⟨kind, fs, fn, ts, tn, id, mn, fo, code, key, recs, vec, path, hashes, route⟩ : Mg), a)) Li a) Li a) Li a)) HGr2.out
  have hsp := qCount_spec gInt Li ar br
  obtain ⟨q, hq⟩ : ∃ q, qCount Li ar br = q := ⟨_, rfl⟩
  rw [hq] at C hc hsp
  obtain ⟨mv, asv, bsv⟩ := q
  simp only at hsp hc
  have hmv : mv ≤ ni := by
    cases bsv
    · have := (hsp.2 rfl).2.1; omega
    · have := (hsp.1 rfl).1; omega
  have HGv := Lib.hid hc
  have C := Lib.hid C
  clear hsp hc hq hlL HGr2
  go_wp2_with fail
  refine C.out.mono ?_
  rintro e wLv ⟨rfl, h2, f2⟩
  simp only at h2
  have HMv := Lib.hid (HMr2.out.call h2 f2)
  have HOr' := Lib.hid (OwnRs.keepF HOr.out f2 (fun i hi e => by have e2 : i = w1.heap.size := e; omega))
  clear HOr
  have HOr := HOr'
  clear HOr'
  clear h2 f2 C HMr2 
  have hlv : w2.heap.size < wLv.heap.size := lt_of_block HMv.out.b8
  have HFv := Lib.hid (Fr.refl (fun i => i = w1.heap.size ∨ i = w2.heap.size) wLv)
  go_upto_block 2 with fail
  refine rm_loop_v hni (by omega) (by omega) hlv hmv HGv HMv _ _ _ _ _ _ _ _ _ _ _ _ _ _ _ _ _ _ _ _ _ _ _ _ _ _ _ _ _ _ _ _ _ _ _ _ _ _ _ _ _ _ _ _ _ _ _ _ _ _ _ _ _ _ _ _ _ _ _ _ _ _ _ _ _ _ _ _ _ _ _ _ _ _ _ _ _ _ _ _ _ _ _ _ _ _ _ _ _ _ _ _ _ _ _ _ _ _ _ _ _ _ _ _ _ _ _ _ _ _ _ _ _ _ _ _ _ _ _ _ _ _ _ _ _ _ _ _ _ _ _ _ _ _ _ _ _ _ _ _ _ _ _ _ _ _ _ _ _ _ _ _ _ _ _ _ _ _ _ _ _ _ _ _ _ _ _ _ _ _ _ _ _ _ _ _ _ _ _ _ _ _ _ _ _ _ _ _ _ _ _ _ _ _ _ _ _ _ _ (Lib.hid ?_)
  rintro wc ⟨nv, av, cv, bv, Av, vec, hkv, HGv2, HOv, HMv2, HFv2⟩
  intro z11 z77 z78 z79 z80 z81 z82 z83 z84 z85 z86 z87 z88 z89 z90 z91 z92 z93 z94 z95
  have HOr' := Lib.hid (OwnRs.keepF HOr.out HFv2.out (fun i hi e => by rcases e with e | e <;> omega))
  clear HOr
  have HOr := HOr'
  clear HOr'
  have C := qcount_any HMv2.out.st
  have hlL := HMv2.out.st.len
  have hc := QG.count (p := gInt) (k := (fun (path : List Int) (a : Nat) => bindP (pTake gHash) (fun (hashes : List Int) (a : Nat) => bindP (pTake gInt) (fun (route : List Int) (a : Nat) => some ((⟨kind, fs, fn, ts, tn, id, mn, fo, code, key, recs, vec, path, hashes, route⟩ : Mg), a)) Li a) Li a)) HGv2.out
  have hsp := qCount_spec gInt Li av bv
  obtain ⟨q, hq⟩ : ∃ q, qCount Li av bv = q := ⟨_, rfl⟩
  rw [hq] at C hc hsp
  obtain ⟨mp, asp, bsp⟩ := q
  simp only at hsp hc
  have hmp : mp ≤ ni := by
    cases bsp
    · have := (hsp.2 rfl).2.1; omega
    · have := (hsp.1 rfl).1; omega
  have HGp := Lib.hid hc
  have C := Lib.hid C
  clear hsp hc hq hlL HGv2
  go_wp2_with fail
  refine C.out.mono ?_
  rintro e wLp ⟨rfl, h2, f2⟩
  simp only at h2
  have HMp := Lib.hid (HMv2.out.call h2 f2)
  have HOr' := Lib.hid (OwnRs.keepF HOr.out f2 (fun i hi e => by have e2 : i = w1.heap.size := e; omega))
  clear HOr
  have HOr := HOr'
  clear HOr'
  have HOv' := Lib.hid (own_keepF HOv.out f2 (fun i hi e => by have e2 : i = w1.heap.size := e; omega))
  clear HOv
  have HOv := HOv'
  clear HOv'
  clear h2 f2 C HMv2 
  have hlp : w2.heap.size < wLp.heap.size := lt_of_block HMp.out.b8
  have HFp := Lib.hid (Fr.refl (fun i => i = w1.heap.size ∨ i = w2.heap.size) wLp)
  go_upto_block 4 with fail
  refine rm_loop_p hni (by omega) (by omega) hlp hmp HGp HMp _ _ _ _ _ _ _ _ _ _ _ _ _ _ _ _ _ _ _ _ _ _ _ _ _ _ _ _ _ _ _ _ _ _ _ _ _ _ _ _ _ _ _ _ _ _ _ _ _ _ _ _ _ _ _ _ _ _ _ _ _ _ _ _ _ _ _ _ _ _ _ _ _ _ _ _ _ _ _ _ _ _ _ _ _ _ _ _ _ _ _ _ _ _ _ _ _ _ _ _ _ _ _ _ _ _ _ _ _ _ _ _ _ _ _ _ _ _ _ _ _ _ _ _ _ _ _ _ _ _ _ _ _ _ _ _ _ _ _ _ _ _ _ _ _ _ _ _ _ _ _ _ _ _ _ _ _ _ _ _ _ _ _ _ _ _ _ _ _ _ _ _ _ _ _ _ _ _ _ _ _ _ _ _ _ _ _ _ _ _ _ _ _ _ _ _ _ _ _ (Lib.hid ?_)
  rintro wc ⟨np, ap, cp, bp, Ap, path, hkp, HGp2, HOp, HMp2, HFp2⟩
  intro z12 z98 z99 z100 z101 z102 z103 z104 z105 z106 z107 z108 z109 z110 z111 z112 z113 z114 z115 z116
  have HOr' := Lib.hid (OwnRs.keepF HOr.out HFp2.out (fun i hi e => by rcases e with e | e <;> omega))
  clear HOr
  have HOr := HOr'
  clear HOr'
  have HOv' := Lib.hid (own_keepF HOv.out HFp2.out (fun i hi e => by rcases e with e | e <;> omega))
  clear HOv
  have HOv := HOv'
  clear HOv'
  have C := qcount_any HMp2.out.st
  have hlL := HMp2.out.st.len
  have hc := QG.count (p := gHash) (k := (fun (hashes : List Int) (a : Nat) => bindP (pTake gInt) (fun (route : List Int) (a : Nat) => some ((⟨kind, fs, fn, ts, tn, id, mn, fo, code, key, recs, vec, path, hashes, route⟩ : Mg), a)) Li a)) HGp2.out
  have hsp := qCount_spec gHash Li ap bp
  obtain ⟨q, hq⟩ : ∃ q, qCount Li ap bp = q := ⟨_, rfl⟩
  rw [hq] at C hc hsp
  obtain ⟨mh, ash, bsh⟩ := q
  simp only at hsp hc
  have hmh : mh ≤ ni := by
    cases bsh
    · have := (hsp.2 rfl).2.1; omega
    · have := (hsp.1 rfl).1; omega
  have HGh := Lib.hid hc
  have C := Lib.hid C
  clear hsp hc hq hlL HGp2
  go_wp2_with fail
  refine C.out.mono ?_
  rintro e wLh ⟨rfl, h2, f2⟩
  simp only at h2
  have HMh := Lib.hid (HMp2.out.call h2 f2)
  have HOr' := Lib.hid (OwnRs.keepF HOr.out f2 (fun i hi e => by have e2 : i = w1.heap.size := e; omega))
  clear HOr
  have HOr := HOr'
  clear HOr'
  have HOv' := Lib.hid (own_keepF HOv.out f2 (fun i hi e => by have e2 : i = w1.heap.size := e; omega))
  clear HOv
  have HOv := HOv'
  clear HOv'
  have HOp' := Lib.hid (own_keepF HOp.out f2 (fun i hi e => by have e2 : i = w1.heap.size := e; omega))
  clear HOp
  have HOp := HOp'
  clear HOp'
  clear h2 f2 C HMp2 
  have hlh : w2.heap.size < wLh.heap.size := lt_of_block HMh.out.b8
  have HFh := Lib.hid (Fr.refl (fun i => i = w1.heap.size ∨ i = w2.heap.size) wLh)
  go_upto_block 6 with fail
  refine rm_loop_h hni (by omega) (by omega) hlh hmh HGh HMh _ _ _ _ _ _ _ _ _ _ _ _ _ _ _ _ _ _ _ _ _ _ _ _ _ _ _ _ _ _ _ _ _ _ _ _ _ _ _ _ _ _ _ _ _ _ _ _ _ _ _ _ _ _ _ _ _ _ _ _ _ _ _ _ _ _ _ _ _ _ _ _ _ _ _ _ _ _ _ _ _ _ _ _ _ _ _ _ _ _ _ _ _ _ _ _ _ _ _ _ _ _ _ _ _ _ _ _ _ _ _ _ _ _ _ _ _ _ _ _ _ _ _ _ _ _ _ _ _ _ _ _ _ _ _ _ _ _ _ _ _ _ _ _ _ _ _ _ _ _ _ _ _ _ _ _ _ _ _ _ _ _ _ _ _ _ _ _ _ _ _ _ _ _ _ _ _ _ _ _ _ _ _ _ _ _ _ _ _ _ _ _ _ _ _ _ _ _ _ (Lib.hid ?_)
  rintro wc ⟨nh, ah, ch, bh, Ah, hashes, hkh, HGh2, HOh, HHS, HMh2, HFh2⟩
  intro z13 z14 z15 z119 z120 z121 z122 z123 z124 z125 z126 z127 z128 z129 z130 z131 z132 z133 z134 z135 z136 z137 z138 z139 z140 z141 z142 z143 z144 z145 z146 z147 z148 z149 z150 z151 z152 z153 z154
  have HOr' := Lib.hid (OwnRs.keepF HOr.out HFh2.out (fun i hi e => by rcases e with e | e <;> omega))
  clear HOr
  have HOr := HOr'
  clear HOr'
  have HOv' := Lib.hid (own_keepF HOv.out HFh2.out (fun i hi e => by rcases e with e | e <;> omega))
  clear HOv
  have HOv := HOv'
  clear HOv'
  have HOp' := Lib.hid (own_keepF HOp.out HFh2.out (fun i hi e => by rcases e with e | e <;> omega))
  clear HOp
  have HOp := HOp'
  clear HOp'
  have C := qcount_any HMh2.out.st
  have hlL := HMh2.out.st.len
  have hc := QG.count (p := gInt) (k := (fun (route : List Int) (a : Nat) => some ((⟨kind, fs, fn, ts, tn, id, mn, fo, code, key, recs, vec, path, hashes, route⟩ : Mg), a))) HGh2.out
  have hsp := qCount_spec gInt Li ah bh
  obtain ⟨q, hq⟩ : ∃ q, qCount Li ah bh = q := ⟨_, rfl⟩
  rw [hq] at C hc hsp
  obtain ⟨mo, aso, bso⟩ := q
  simp only at hsp hc
  have hmo : mo ≤ ni := by
    cases bso
    · have := (hsp.2 rfl).2.1; omega
    · have := (hsp.1 rfl).1; omega
  have HGo := Lib.hid hc
  have C := Lib.hid C
  clear hsp hc hq hlL HGh2
  go_wp2_with fail
  refine C.out.mono ?_
  rintro e wLo ⟨rfl, h2, f2⟩
  simp only at h2
  have HMo := Lib.hid (HMh2.out.call h2 f2)
  have HOr' := Lib.hid (OwnRs.keepF HOr.out f2 (fun i hi e => by have e2 : i = w1.heap.size := e; omega))
  clear HOr
  have HOr := HOr'
  clear HOr'
  have HOv' := Lib.hid (own_keepF HOv.out f2 (fun i hi e => by have e2 : i = w1.heap.size := e; omega))
  clear HOv
  have HOv := HOv'
  clear HOv'
  have HOp' := Lib.hid (own_keepF HOp.out f2 (fun i hi e => by have e2 : i = w1.heap.size := e; omega))
  clear HOp
  have HOp := HOp'
  clear HOp'
  have HOh' := Lib.hid (own_keepF HOh.out f2 (fun i hi e => by have e2 : i = w1.heap.size := e; omega))
  clear HOh
  have HOh := HOh'
  clear HOh'
  clear h2 f2 C HMh2 
  have hlo : w2.heap.size < wLo.heap.size := lt_of_block HMo.out.b8
  have HFo := Lib.hid (Fr.refl (fun i => i = w1.heap.size ∨ i = w2.heap.size) wLo)
  go_upto_block 8 with fail
  refine rm_loop_o hni (by omega) (by omega) hlo hmo HGo HMo _ _ _ _ _ _ _ _ _ _ _ _ _ _ _ _ _ _ _ _ _ _ _ _ _ _ _ _ _ _ _ _ _ _ _ _ _ _ _ _ _ _ _ _ _ _ _ _ _ _ _ _ _ _ _ _ _ _ _ _ _ _ _ _ _ _ _ _ _ _ _ _ _ _ _ _ _ _ _ _ _ _ _ _ _ _ _ _ _ _ _ _ _ _ _ _ _ _ _ _ _ _ _ _ _ _ _ _ _ _ _ _ _ _ _ _ _ _ _ _ _ _ _ _ _ _ _ _ _ _ _ _ _ _ _ _ _ _ _ _ _ _ _ _ _ _ _ _ _ _ _ _ _ _ _ _ _ _ _ _ _ _ _ _ _ _ _ _ _ _ _ _ _ _ _ _ _ _ _ _ _ _ _ _ _ _ _ _ _ _ _ _ _ _ _ _ _ _ _ (Lib.hid ?_)
  rintro wc ⟨no, ao, co, bo, Ao, route, hko, HGo2, HOo, HMo2, HFo2⟩
  intro z16 z157 z158 z159 z160 z161 z162 z163 z164 z165 z166 z167 z168 z169 z170 z171 z172 z173 z174 z175
  have HOr' := Lib.hid (OwnRs.keepF HOr.out HFo2.out (fun i hi e => by rcases e with e | e <;> omega))
  clear HOr
  have HOr := HOr'
  clear HOr'
  have HOv' := Lib.hid (own_keepF HOv.out HFo2.out (fun i hi e => by rcases e with e | e <;> omega))
  clear HOv
  have HOv := HOv'
  clear HOv'
  have HOp' := Lib.hid (own_keepF HOp.out HFo2.out (fun i hi e => by rcases e with e | e <;> omega))
  clear HOp
  have HOp := HOp'
  clear HOp'
  have HOh' := Lib.hid (own_keepF HOh.out HFo2.out (fun i hi e => by rcases e with e | e <;> omega))
  clear HOh
  have HOh := HOh'
  clear HOh'
  dsimp only [Exit.then]
  rename_i hKT
  exact hKT _ _ (rm_tail hni (by omega) (by omega) (by omega) hlr hlv hlp hlh hlo hkr hkv hkp hkh hko hkey (by omega) (by omega) HNX HL HLI HGo2 HMo2 HOr HOv HOp HOh HOo HHS HBB _ _ _ _ _ _ _ _ _ _ _ _ _ _ _ _ _ _ _ _ _ _ _ _ _ _ _ _ _ _ _ _ _ _ _ _ _ _ _ _ _ _ _ _ _ _ _ _ _ _ _ _ _ _ _ _ _ _ _ _ _ _ _ _ _ _ _ _ _ _ _ _ _ _ _ _ _ _ _ _ _ _ _ _ _ _ _ _ _ _ _ _ _ _ _ _ _ _ _ _ _ _ _ _ _ _ _ _ _ _ _ _ _ _ _ _ _ _ _ _ _ _ _ _ _ _ _ _ _ _ _ _ _ _ _ _ _ _ _ _ _ _ _ _ _ _ _ _ _ _ _ _ _ _ _ _ _ _ _ _ _ _ _ _ _ _ _ _ _ _ _ _ _ _ _ _ _ _ _ _ _ _ _ _ _ _ _ _ _ _ _ _ _ _ _ _)
theorem refMsg_any (w : World) (A : Option Addr) (n c : Nat) (L : List UInt8) (hs : SlB w A n L) (hc : n ≤ c) (h9 : n ≤ 140737488351232) :
    Calls Try.prog 16 #[.slice A n c] w (MsgAns w (msgRd L).1 (msgRd L).2) := by
  cases hn : nextF L 0 with
  | error x => exact refMsg_err w A n c L hs hc h9 x hn
  | ok p => exact refMsg_ok w A n c L hs hc h9 p.1 p.2 hn
end Go.Proofs.Ytgnedaihchmoaaa
