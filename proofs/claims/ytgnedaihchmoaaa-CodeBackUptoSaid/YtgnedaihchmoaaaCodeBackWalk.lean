/-
  firthlaw06.CodeBack. (Printed by tools/codelaws.py.)
-/
import Derived.Test.YtgnedaihchmoaaaCodeLaws
namespace Go.Proofs.Ytgnedaihchmoaaa
open Go.RowKit
set_option linter.unusedVariables false

set_option maxHeartbeats 8000000 in
set_option maxRecDepth 100000 in
theorem codeBack_walk (cs : List Value) (x : msgSh.T) (a : Option Addr) (len cap : Nat) (l : List UInt8) (W : World) (s0 : Rd W msgSh cs x) (u0 : shB msgSh x ≤ 1048576) (s1 : SlB W a len l) (b1 : len ≤ cap) (z1 : cap * 1 ≤ 140737488351232) (hsum : cap ≤ 1048576) :
    Calls Try.prog 5 #[.agg cs.toArray, .slice a len cap] W (BoolE W true) := by
  obtain ⟨y, hcs, hr, hn⟩ := msg_open s0
  rw [hcs]
  clear hcs s0
  obtain ⟨⟨kind, fs, fn, ts, tn, id, mn, fo, code, key, recs, vec, path, hashes, route⟩, Ar, nr, cr, Av, nv, cv, Ap, np, cp, Ah, nh, ch, Ao, no, co⟩ := y
  simp only [Mx.cells] at *
  have bA : Below W.heap.size W (W.alloc (.cells #[.int .i64 kind, .int .i64 fs, .int .i64 fn, .int .i64 ts, .int .i64 tn, .int .i64 id, .int .i64 mn, .int .i64 fo, .int .i64 code, .string key, .slice Ar nr cr, .slice Av nv cv, .slice Ap np cp, .slice Ah nh ch, .slice Ao no co] 30)) := (Below.refl _ _).alloc (Nat.le_refl _) _
  have hb := heap_alloc_new W (.cells #[.int .i64 kind, .int .i64 fs, .int .i64 fn, .int .i64 ts, .int .i64 tn, .int .i64 id, .int .i64 mn, .int .i64 fo, .int .i64 code, .string key, .slice Ar nr cr, .slice Av nv cv, .slice Ap np cp, .slice Ah nh ch, .slice Ao no co] 30)
  have HR := Lib.hid (hr.below bA)
  have hnr : nr ≤ 1048576 := by omega
  have c1 := putMsg_any _ ⟨⟨kind, fs, fn, ts, tn, id, mn, fo, code, key, recs, vec, path, hashes, route⟩, Ar, nr, cr, Av, nv, cv, Ap, np, cp, Ah, nh, ch, Ao, no, co⟩ HR.out hnr
  simp only [Mx.cells] at c1
  have HWF := Lib.hid hr.wf
  have HA := Lib.hid bA
  have HX := Lib.hid hb
  have p0 := row_cell (j := 0) hb rfl
  have p1 := row_cell (j := 1) hb rfl
  have p2 := row_cell (j := 2) hb rfl
  have p3 := row_cell (j := 3) hb rfl
  have p4 := row_cell (j := 4) hb rfl
  have p5 := row_cell (j := 5) hb rfl
  have p6 := row_cell (j := 6) hb rfl
  have p7 := row_cell (j := 7) hb rfl
  have p8 := row_cell (j := 8) hb rfl
  have p9 := row_cell (j := 9) hb rfl
  have p10 := row_cell (j := 10) hb rfl
  have p11 := row_cell (j := 11) hb rfl
  have p12 := row_cell (j := 12) hb rfl
  have p13 := row_cell (j := 13) hb rfl
  have p14 := row_cell (j := 14) hb rfl
  have HS := Lib.hid (Sl.below s1 bA)
  clear hr bA hb s1 hn u0 hnr
  rcases putMsgE_cases ⟨kind, fs, fn, ts, tn, id, mn, fo, code, key, recs, vec, path, hashes, route⟩ with ⟨q, hq, hE⟩ | ⟨hR, hL, hE⟩
  · rw [hE] at c1
    have C1 := Lib.hid c1
    have t3 : (q == 0) = false := by rw [beq_eq_false_iff_ne]; exact hq
    have t4 : (q != 0) = true := by rw [bne_iff_ne]; exact hq
    clear c1 hE hq HR HWF HX
    go_enter Try.func5, Try.ntmps5
    go_wp2_with fail
    refine C1.out.mono ?_
    rintro e w1 ⟨A1, n1, c1, rfl, sx, -, -, b2, -⟩
    have hn1 : n1 = 0 := by have := sx.len; simp at this; omega
    have HB1 := Lib.hid (HA.out.trans (b2.mono HA.out.size))
    have HS1 := Lib.hid (Sl.below HS.out b2)
    clear C1 sx b2 HA HS p0 p1 p2 p3 p4 p5 p6 p7 p8 p9 p10 p11 p12 p13 p14
    subst hn1
    have c5 := msg_any w1 a len cap l HS1.out b1 (by omega)
    cases hrd : (msgRd l).1 with
    | none =>
      have hx := msgRd_no hrd
      rw [hrd] at c5
      obtain ⟨f, hf⟩ : ∃ f, (msgRd l).2 = f := ⟨_, rfl⟩
      rw [hf] at c5 hx
      have t1 : (f != 0) = true := by rw [bne_iff_ne]; exact hx
      have t2 : (f == 0) = false := by rw [beq_eq_false_iff_ne]; exact hx
      have C5 := Lib.hid c5
      clear c5 hx hf hrd
      go_wp2_with fail
      refine C5.out.mono ?_
      rintro e w5 ⟨rfl, b5⟩
      have bz : Below w5.heap.size w5 (w5.alloc (.cells #[.int .i64 0, .int .i64 0, .int .i64 0, .int .i64 0, .int .i64 0, .int .i64 0, .int .i64 0, .int .i64 0, .int .i64 0, .string ⟨#[]⟩, .slice none 0 0, .slice none 0 0, .slice none 0 0, .slice none 0 0, .slice none 0 0] 30)) := (Below.refl _ _).alloc (Nat.le_refl _) _
      have hz := heap_alloc_new w5 (.cells #[.int .i64 0, .int .i64 0, .int .i64 0, .int .i64 0, .int .i64 0, .int .i64 0, .int .i64 0, .int .i64 0, .int .i64 0, .string ⟨#[]⟩, .slice none 0 0, .slice none 0 0, .slice none 0 0, .slice none 0 0, .slice none 0 0] 30)
      have HB5 := Lib.hid ((HB1.out.trans (b5.mono HB1.out.size)).trans (bz.mono (HB1.out.trans (b5.mono HB1.out.size)).size))
      have C9 := Lib.hid (awake_any (w5.alloc (.cells #[.int .i64 0, .int .i64 0, .int .i64 0, .int .i64 0, .int .i64 0, .int .i64 0, .int .i64 0, .int .i64 0, .int .i64 0, .string ⟨#[]⟩, .slice none 0 0, .slice none 0 0, .slice none 0 0, .slice none 0 0, .slice none 0 0] 30)))
      clear b5 bz hz C5 HB1 HS1
      go_wp2_with fail
      refine C9.out.mono ?_
      rintro e w6 ⟨rfl, b6⟩
      have HB6 := Lib.hid (HB5.out.trans (b6.mono HB5.out.size))
      clear b6 C9 HB5
      go_wp2
      go_ret
      exact ⟨rfl, HB6.out⟩
    | some m2 =>
      obtain ⟨g1, g2, g3, g4⟩ := (msgRd_iff l m2).1 hrd
      have hE2 := putMsgE_ok g1 g3
      rw [← g4] at hE2
      rw [hrd, msgRd_ok hrd] at c5
      have C5 := Lib.hid c5
      have hnr := recs_len m2
      clear c5 hrd g1 g2 g4
      go_wp2_with fail
      refine C5.out.mono ?_
      rintro e w5 ⟨v, rfl, ⟨x2, hm2, hv, hO⟩, b5⟩
      have HR5 := Lib.hid hO.row
      have hnr2 := hO.row.recs.len
      obtain ⟨⟨kindb, fsb, fnb, tsb, tnb, idb, mnb, fob, codeb, keyb, recsb, vecb, pathb, hashesb, routeb⟩, Arb, nrb, crb, Avb, nvb, cvb, Apb, npb, cpb, Ahb, nhb, chb, Aob, nob, cob⟩ := x2
      simp only [Mx.cells] at hv hm2 HR5 hnr2
      subst hv hm2
      simp only at hnr
      have bz : Below w5.heap.size w5 (w5.alloc (.cells #[.int .i64 kindb, .int .i64 fsb, .int .i64 fnb, .int .i64 tsb, .int .i64 tnb, .int .i64 idb, .int .i64 mnb, .int .i64 fob, .int .i64 codeb, .string keyb, .slice Arb nrb crb, .slice Avb nvb cvb, .slice Apb npb cpb, .slice Ahb nhb chb, .slice Aob nob cob] 30)) := (Below.refl _ _).alloc (Nat.le_refl _) _
      have hz := heap_alloc_new w5 (.cells #[.int .i64 kindb, .int .i64 fsb, .int .i64 fnb, .int .i64 tsb, .int .i64 tnb, .int .i64 idb, .int .i64 mnb, .int .i64 fob, .int .i64 codeb, .string keyb, .slice Arb nrb crb, .slice Avb nvb cvb, .slice Apb npb cpb, .slice Ahb nhb chb, .slice Aob nob cob] 30)
      have c7 := putMsg_any _ ⟨⟨kindb, fsb, fnb, tsb, tnb, idb, mnb, fob, codeb, keyb, recsb, vecb, pathb, hashesb, routeb⟩, Arb, nrb, crb, Avb, nvb, cvb, Apb, npb, cpb, Ahb, nhb, chb, Aob, nob, cob⟩ (HR5.out.below bz) (by simp only; omega)
      simp only [Mx.cells] at c7
      rw [hE2] at c7
      have C7 := Lib.hid c7
      have q0 := row_cell (j := 0) hz rfl
      have q1 := row_cell (j := 1) hz rfl
      have q2 := row_cell (j := 2) hz rfl
      have q3 := row_cell (j := 3) hz rfl
      have q4 := row_cell (j := 4) hz rfl
      have q5 := row_cell (j := 5) hz rfl
      have q6 := row_cell (j := 6) hz rfl
      have q7 := row_cell (j := 7) hz rfl
      have q8 := row_cell (j := 8) hz rfl
      have q9 := row_cell (j := 9) hz rfl
      have q10 := row_cell (j := 10) hz rfl
      have q11 := row_cell (j := 11) hz rfl
      have q12 := row_cell (j := 12) hz rfl
      have q13 := row_cell (j := 13) hz rfl
      have q14 := row_cell (j := 14) hz rfl
      have HB5 := Lib.hid ((HB1.out.trans (b5.mono HB1.out.size)).trans (bz.mono (HB1.out.trans (b5.mono HB1.out.size)).size))
      have HS5 := Lib.hid (Sl.below (Sl.below HS1.out b5) bz)
      clear b5 bz hz C5 HB1 HS1 hO HR5 c7 hE2 hnr hnr2 g3
      go_wp2_with fail
      refine C7.out.mono ?_
      rintro e w7 ⟨A7, n7, c7, rfl, s7, -, -, b7, -⟩
      have HB7 := Lib.hid (HB5.out.trans (b7.mono HB5.out.size))
      have HS7 := Lib.hid (Sl.below HS5.out b7)
      have HZ7 := Lib.hid s7
      have C9 := Lib.hid (awake_any w7)
      clear b7 s7 C7 HB5 HS5 q0 q1 q2 q3 q4 q5 q6 q7 q8 q9 q10 q11 q12 q13 q14
      go_wp2_with fail
      refine C9.out.mono ?_
      rintro e w8 ⟨rfl, b8⟩
      have HB8 := Lib.hid (HB7.out.trans (b8.mono HB7.out.size))
      have e1 := run_convert_SlB (P := Try.prog) (Sl.below HS7.out b8) 31 5 9 Try.underlying31 Try.underlying5 Try.underlying9 cap
      have e2 := run_convert_SlB (P := Try.prog) (Sl.below HZ7.out b8) 31 5 9 Try.underlying31 Try.underlying5 Try.underlying9 c7
      clear b8 C9 HB7 HS7 HZ7
      go_wp2
      go_ret
      exact ⟨rfl, HB8.out⟩
  · rw [hE] at c1
    have hrd0 := msgRd_put hR HWF.out hL
    obtain ⟨L1, hL1⟩ : ∃ L1, putF (msgB ⟨kind, fs, fn, ts, tn, id, mn, fo, code, key, recs, vec, path, hashes, route⟩) = L1 := ⟨_, rfl⟩
    have hl1 : L1.length ≤ 1048600 := by rw [← hL1, putF_len]; have := putNum_len (msgB ⟨kind, fs, fn, ts, tn, id, mn, fo, code, key, recs, vec, path, hashes, route⟩).length; omega
    rw [hL1] at c1 hrd0
    have C1 := Lib.hid c1
    have HRD := Lib.hid hrd0
    clear c1 hE hrd0 hL1 hR hL HWF
    go_enter Try.func5, Try.ntmps5
    go_wp2_with fail
    refine C1.out.mono ?_
    rintro e w1 ⟨A1, n1, c1, rfl, sx, hc1, -, b2, -⟩
    have HB0 := Lib.hid (HA.out.trans (b2.mono HA.out.size))
    have HS0 := Lib.hid (Sl.below HS.out b2)
    have HX1 := Lib.hid ((b2.block _ (lt_of_block HX.out)).trans HX.out)
    have HR1 := Lib.hid (HR.out.below b2)
    have c3 := msg_any w1 A1 n1 c1 L1 sx hc1 (by have := sx.len; omega)
    rw [HRD.out] at c3
    have C3 := Lib.hid c3
    clear C1 sx b2 c3 HA HS HX HR p0 p1 p2 p3 p4 p5 p6 p7 p8 p9 p10 p11 p12 p13 p14
    go_wp2_with fail
    refine C3.out.mono ?_
    rintro e w3 ⟨v, rfl, ⟨x3, hm3, hv, hO⟩, b3⟩
    have HR3 := Lib.hid hO.row
    have HM3 := Lib.hid hm3
    obtain ⟨⟨kindc, fsc, fnc, tsc, tnc, idc, mnc, foc, codec, keyc, recsc, vecc, pathc, hashesc, routec⟩, Arc, nrc, crc, Avc, nvc, cvc, Apc, npc, cpc, Ahc, nhc, chc, Aoc, noc, coc⟩ := x3
    simp only [Mx.cells] at hv HM3 HR3
    subst hv
    have bz : Below w3.heap.size w3 (w3.alloc (.cells #[.int .i64 kindc, .int .i64 fsc, .int .i64 fnc, .int .i64 tsc, .int .i64 tnc, .int .i64 idc, .int .i64 mnc, .int .i64 foc, .int .i64 codec, .string keyc, .slice Arc nrc crc, .slice Avc nvc cvc, .slice Apc npc cpc, .slice Ahc nhc chc, .slice Aoc noc coc] 30)) := (Below.refl _ _).alloc (Nat.le_refl _) _
    have hz := heap_alloc_new w3 (.cells #[.int .i64 kindc, .int .i64 fsc, .int .i64 fnc, .int .i64 tsc, .int .i64 tnc, .int .i64 idc, .int .i64 mnc, .int .i64 foc, .int .i64 codec, .string keyc, .slice Arc nrc crc, .slice Avc nvc cvc, .slice Apc npc cpc, .slice Ahc nhc chc, .slice Aoc noc coc] 30)
    have hX3 := (b3.block _ (lt_of_block HX1.out)).trans HX1.out
    have hX4 := (Below.heap_alloc w3 (.cells #[.int .i64 kindc, .int .i64 fsc, .int .i64 fnc, .int .i64 tsc, .int .i64 tnc, .int .i64 idc, .int .i64 mnc, .int .i64 foc, .int .i64 codec, .string keyc, .slice Arc nrc crc, .slice Avc nvc cvc, .slice Apc npc cpc, .slice Ahc nhc chc, .slice Aoc noc coc] 30) _ (lt_of_block hX3)).trans hX3
    have C4 := Lib.hid (same_true ⟨⟨kindc, fsc, fnc, tsc, tnc, idc, mnc, foc, codec, keyc, recsc, vecc, pathc, hashesc, routec⟩, Arc, nrc, crc, Avc, nvc, cvc, Apc, npc, cpc, Ahc, nhc, chc, Aoc, noc, coc⟩ ⟨⟨kind, fs, fn, ts, tn, id, mn, fo, code, key, recs, vec, path, hashes, route⟩, Ar, nr, cr, Av, nv, cv, Ap, np, cp, Ah, nh, ch, Ao, no, co⟩ HM3.out _ (HR3.out.below bz) ((HR1.out.below b3).below bz))
    simp only [Mx.cells] at C4
    have HB3 := Lib.hid ((HB0.out.trans (b3.mono HB0.out.size)).trans (bz.mono (HB0.out.trans (b3.mono HB0.out.size)).size))
    have HS3 := Lib.hid (Sl.below (Sl.below HS0.out b3) bz)
    have q0 := row_cell (j := 0) hz rfl
    have q1 := row_cell (j := 1) hz rfl
    have q2 := row_cell (j := 2) hz rfl
    have q3 := row_cell (j := 3) hz rfl
    have q4 := row_cell (j := 4) hz rfl
    have q5 := row_cell (j := 5) hz rfl
    have q6 := row_cell (j := 6) hz rfl
    have q7 := row_cell (j := 7) hz rfl
    have q8 := row_cell (j := 8) hz rfl
    have q9 := row_cell (j := 9) hz rfl
    have q10 := row_cell (j := 10) hz rfl
    have q11 := row_cell (j := 11) hz rfl
    have q12 := row_cell (j := 12) hz rfl
    have q13 := row_cell (j := 13) hz rfl
    have q14 := row_cell (j := 14) hz rfl
    have p0 := row_cell (j := 0) hX4 rfl
    have p1 := row_cell (j := 1) hX4 rfl
    have p2 := row_cell (j := 2) hX4 rfl
    have p3 := row_cell (j := 3) hX4 rfl
    have p4 := row_cell (j := 4) hX4 rfl
    have p5 := row_cell (j := 5) hX4 rfl
    have p6 := row_cell (j := 6) hX4 rfl
    have p7 := row_cell (j := 7) hX4 rfl
    have p8 := row_cell (j := 8) hX4 rfl
    have p9 := row_cell (j := 9) hX4 rfl
    have p10 := row_cell (j := 10) hX4 rfl
    have p11 := row_cell (j := 11) hX4 rfl
    have p12 := row_cell (j := 12) hX4 rfl
    have p13 := row_cell (j := 13) hX4 rfl
    have p14 := row_cell (j := 14) hX4 rfl
    clear b3 bz hz hX3 hX4 hm3 hO C3 HB0 HS0 HX1 HR1 HR3 HM3 HRD hl1
    go_wp2_with fail
    refine C4.out.mono ?_
    rintro e w4 ⟨rfl, b4⟩
    have HB1 := Lib.hid (HB3.out.trans (b4.mono HB3.out.size))
    have HS1 := Lib.hid (Sl.below HS3.out b4)
    clear b4 C4 HB3 HS3 p0 p1 p2 p3 p4 p5 p6 p7 p8 p9 p10 p11 p12 p13 p14 q0 q1 q2 q3 q4 q5 q6 q7 q8 q9 q10 q11 q12 q13 q14
    have c5 := msg_any w4 a len cap l HS1.out b1 (by omega)
    cases hrd : (msgRd l).1 with
    | none =>
      have hx := msgRd_no hrd
      rw [hrd] at c5
      obtain ⟨f, hf⟩ : ∃ f, (msgRd l).2 = f := ⟨_, rfl⟩
      rw [hf] at c5 hx
      have t1 : (f != 0) = true := by rw [bne_iff_ne]; exact hx
      have t2 : (f == 0) = false := by rw [beq_eq_false_iff_ne]; exact hx
      have C5 := Lib.hid c5
      clear c5 hx hf hrd
      go_wp2_with fail
      refine C5.out.mono ?_
      rintro e w5 ⟨rfl, b5⟩
      have bz : Below w5.heap.size w5 (w5.alloc (.cells #[.int .i64 0, .int .i64 0, .int .i64 0, .int .i64 0, .int .i64 0, .int .i64 0, .int .i64 0, .int .i64 0, .int .i64 0, .string ⟨#[]⟩, .slice none 0 0, .slice none 0 0, .slice none 0 0, .slice none 0 0, .slice none 0 0] 30)) := (Below.refl _ _).alloc (Nat.le_refl _) _
      have hz := heap_alloc_new w5 (.cells #[.int .i64 0, .int .i64 0, .int .i64 0, .int .i64 0, .int .i64 0, .int .i64 0, .int .i64 0, .int .i64 0, .int .i64 0, .string ⟨#[]⟩, .slice none 0 0, .slice none 0 0, .slice none 0 0, .slice none 0 0, .slice none 0 0] 30)
      have HB5 := Lib.hid ((HB1.out.trans (b5.mono HB1.out.size)).trans (bz.mono (HB1.out.trans (b5.mono HB1.out.size)).size))
      have C9 := Lib.hid (awake_any (w5.alloc (.cells #[.int .i64 0, .int .i64 0, .int .i64 0, .int .i64 0, .int .i64 0, .int .i64 0, .int .i64 0, .int .i64 0, .int .i64 0, .string ⟨#[]⟩, .slice none 0 0, .slice none 0 0, .slice none 0 0, .slice none 0 0, .slice none 0 0] 30)))
      clear b5 bz hz C5 HB1 HS1
      go_wp2_with fail
      refine C9.out.mono ?_
      rintro e w6 ⟨rfl, b6⟩
      have HB6 := Lib.hid (HB5.out.trans (b6.mono HB5.out.size))
      clear b6 C9 HB5
      go_wp2
      go_ret
      exact ⟨rfl, HB6.out⟩
    | some m2 =>
      obtain ⟨g1, g2, g3, g4⟩ := (msgRd_iff l m2).1 hrd
      have hE2 := putMsgE_ok g1 g3
      rw [← g4] at hE2
      rw [hrd, msgRd_ok hrd] at c5
      have C5 := Lib.hid c5
      have hnr := recs_len m2
      clear c5 hrd g1 g2 g4
      go_wp2_with fail
      refine C5.out.mono ?_
      rintro e w5 ⟨v, rfl, ⟨x2, hm2, hv, hO⟩, b5⟩
      have HR5 := Lib.hid hO.row
      have hnr2 := hO.row.recs.len
      obtain ⟨⟨kindb, fsb, fnb, tsb, tnb, idb, mnb, fob, codeb, keyb, recsb, vecb, pathb, hashesb, routeb⟩, Arb, nrb, crb, Avb, nvb, cvb, Apb, npb, cpb, Ahb, nhb, chb, Aob, nob, cob⟩ := x2
      simp only [Mx.cells] at hv hm2 HR5 hnr2
      subst hv hm2
      simp only at hnr
      have bz : Below w5.heap.size w5 (w5.alloc (.cells #[.int .i64 kindb, .int .i64 fsb, .int .i64 fnb, .int .i64 tsb, .int .i64 tnb, .int .i64 idb, .int .i64 mnb, .int .i64 fob, .int .i64 codeb, .string keyb, .slice Arb nrb crb, .slice Avb nvb cvb, .slice Apb npb cpb, .slice Ahb nhb chb, .slice Aob nob cob] 30)) := (Below.refl _ _).alloc (Nat.le_refl _) _
      have hz := heap_alloc_new w5 (.cells #[.int .i64 kindb, .int .i64 fsb, .int .i64 fnb, .int .i64 tsb, .int .i64 tnb, .int .i64 idb, .int .i64 mnb, .int .i64 fob, .int .i64 codeb, .string keyb, .slice Arb nrb crb, .slice Avb nvb cvb, .slice Apb npb cpb, .slice Ahb nhb chb, .slice Aob nob cob] 30)
      have c7 := putMsg_any _ ⟨⟨kindb, fsb, fnb, tsb, tnb, idb, mnb, fob, codeb, keyb, recsb, vecb, pathb, hashesb, routeb⟩, Arb, nrb, crb, Avb, nvb, cvb, Apb, npb, cpb, Ahb, nhb, chb, Aob, nob, cob⟩ (HR5.out.below bz) (by simp only; omega)
      simp only [Mx.cells] at c7
      rw [hE2] at c7
      have C7 := Lib.hid c7
      have q0 := row_cell (j := 0) hz rfl
      have q1 := row_cell (j := 1) hz rfl
      have q2 := row_cell (j := 2) hz rfl
      have q3 := row_cell (j := 3) hz rfl
      have q4 := row_cell (j := 4) hz rfl
      have q5 := row_cell (j := 5) hz rfl
      have q6 := row_cell (j := 6) hz rfl
      have q7 := row_cell (j := 7) hz rfl
      have q8 := row_cell (j := 8) hz rfl
      have q9 := row_cell (j := 9) hz rfl
      have q10 := row_cell (j := 10) hz rfl
      have q11 := row_cell (j := 11) hz rfl
      have q12 := row_cell (j := 12) hz rfl
      have q13 := row_cell (j := 13) hz rfl
      have q14 := row_cell (j := 14) hz rfl
      have HB5 := Lib.hid ((HB1.out.trans (b5.mono HB1.out.size)).trans (bz.mono (HB1.out.trans (b5.mono HB1.out.size)).size))
      have HS5 := Lib.hid (Sl.below (Sl.below HS1.out b5) bz)
      clear b5 bz hz C5 HB1 HS1 hO HR5 c7 hE2 hnr hnr2 g3
      go_wp2_with fail
      refine C7.out.mono ?_
      rintro e w7 ⟨A7, n7, c7, rfl, s7, -, -, b7, -⟩
      have HB7 := Lib.hid (HB5.out.trans (b7.mono HB5.out.size))
      have HS7 := Lib.hid (Sl.below HS5.out b7)
      have HZ7 := Lib.hid s7
      have C9 := Lib.hid (awake_any w7)
      clear b7 s7 C7 HB5 HS5 q0 q1 q2 q3 q4 q5 q6 q7 q8 q9 q10 q11 q12 q13 q14
      go_wp2_with fail
      refine C9.out.mono ?_
      rintro e w8 ⟨rfl, b8⟩
      have HB8 := Lib.hid (HB7.out.trans (b8.mono HB7.out.size))
      have e1 := run_convert_SlB (P := Try.prog) (Sl.below HS7.out b8) 31 5 9 Try.underlying31 Try.underlying5 Try.underlying9 cap
      have e2 := run_convert_SlB (P := Try.prog) (Sl.below HZ7.out b8) 31 5 9 Try.underlying31 Try.underlying5 Try.underlying9 c7
      clear b8 C9 HB7 HS7 HZ7
      go_wp2
      go_ret
      exact ⟨rfl, HB8.out⟩
end Go.Proofs.Ytgnedaihchmoaaa
