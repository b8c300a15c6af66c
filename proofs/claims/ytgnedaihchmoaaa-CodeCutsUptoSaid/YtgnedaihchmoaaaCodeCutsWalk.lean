/-
  firthlaw06.CodeCuts. (Printed by tools/codelaws.py.)
-/
import Derived.Test.YtgnedaihchmoaaaCodeLaws
import Derived.Test.YtgnedaihchmoaaaFrameCut
import Derived.Test.YtgnedaihchmoaaaAcc
namespace Go.Proofs.Ytgnedaihchmoaaa
open Go.RowKit
set_option linter.unusedVariables false

theorem msgRd_cut {m : Mg} (h : (msgB m).length ≤ 1048576) {k : Nat} (hk : k < (putF (msgB m)).length) : msgRd ((putF (msgB m)).take k) = (none, 4) :=
  msgRd_err (next_short h (by rw [List.drop_zero]) hk)
theorem msgRd_long {m : Mg} (h : (msgB m).length ≤ 1048576) {r : List UInt8} (hr : r ≠ []) : msgRd (putF (msgB m) ++ r) = (none, 2) := by
  have hn := nextF_put h (putF (msgB m) ++ r) r 0 (by simp) (Nat.zero_le _)
  rw [Nat.zero_add] at hn
  refine msgRd_far hn ?_
  rw [List.length_append]
  have := List.length_pos_iff.2 hr
  omega
set_option maxHeartbeats 8000000 in
set_option maxRecDepth 100000 in
theorem codeCuts_walk (cs : List Value) (x : msgSh.T) (ct : Int) (a : Option Addr) (len cap : Nat) (l : List UInt8) (W : World) (s0 : Rd W msgSh cs x) (u0 : shB msgSh x ≤ 1048576) (wct : (Lit.int .i64 ct).wf = true) (s1 : SlB W a len l) (b1 : len ≤ cap) (z1 : cap * 1 ≤ 140737488351232) (hsum : cap ≤ 1048576) :
    Calls Try.prog 6 #[.agg cs.toArray, .int .i64 ct, .slice a len cap] W (BoolE W true) := by
  obtain ⟨y, hcs, hr, hn⟩ := msg_open s0
  rw [hcs]
  clear hcs s0
  obtain ⟨⟨kind, fs, fn, ts, tn, id, mn, fo, code, key, recs, vec, path, hashes, route⟩, Ar, nr, cr, Av, nv, cv, Ap, np, cp, Ah, nh, ch, Ao, no, co⟩ := y
  simp only [Mx.cells] at *
  have bA : Below W.heap.size W (W.alloc (.cells #[.int .i64 kind, .int .i64 fs, .int .i64 fn, .int .i64 ts, .int .i64 tn, .int .i64 id, .int .i64 mn, .int .i64 fo, .int .i64 code, .string key, .slice Ar nr cr, .slice Av nv cv, .slice Ap np cp, .slice Ah nh ch, .slice Ao no co] 30)) := (Below.refl _ _).alloc (Nat.le_refl _) _
  have hb := heap_alloc_new W (.cells #[.int .i64 kind, .int .i64 fs, .int .i64 fn, .int .i64 ts, .int .i64 tn, .int .i64 id, .int .i64 mn, .int .i64 fo, .int .i64 code, .string key, .slice Ar nr cr, .slice Av nv cv, .slice Ap np cp, .slice Ah nh ch, .slice Ao no co] 30)
  have HR := Lib.hid (hr.below bA)
  have hnr : nr ≤ 1048576 := by omega
  have c1 := putMsg_any _ ⟨⟨kind, fs, fn, ts, tn, id, mn, fo, code, key, recs, vec, path, hashes, route⟩, Ar, nr, cr, Av, nv, cv, Ap, np, cp, Ah, nh, ch, Ao, no, co⟩ HR.out hnr
  simp only [Mx.cells] at c1
  have HWF := Lib.hid hr.wf
  have HA := Lib.hid bA
  have HX := Lib.hid hb
  have p0 := row_cell (j := 0) hb rfl
  have p1 := row_cell (j := 1) hb rfl
  have p2 := row_cell (j := 2) hb rfl
  have p3 := row_cell (j := 3) hb rfl
  have p4 := row_cell (j := 4) hb rfl
  have p5 := row_cell (j := 5) hb rfl
  have p6 := row_cell (j := 6) hb rfl
  have p7 := row_cell (j := 7) hb rfl
  have p8 := row_cell (j := 8) hb rfl
  have p9 := row_cell (j := 9) hb rfl
  have p10 := row_cell (j := 10) hb rfl
  have p11 := row_cell (j := 11) hb rfl
  have p12 := row_cell (j := 12) hb rfl
  have p13 := row_cell (j := 13) hb rfl
  have p14 := row_cell (j := 14) hb rfl
  obtain ⟨i0, hi, hz0, hz1, hz2⟩ := info_parts Try.infoU8
  have hct := bounds_i64 wct
  have HS := Lib.hid (Sl.below s1 bA)
  have hll := s1.len
  clear hr bA hb s1 hn u0 hnr wct HR HX
  rcases putMsgE_cases ⟨kind, fs, fn, ts, tn, id, mn, fo, code, key, recs, vec, path, hashes, route⟩ with ⟨q, hq, hE⟩ | ⟨hR, hL, hE⟩
  · rw [hE] at c1
    have C1 := Lib.hid c1
    have t3 : (q == 0) = false := by rw [beq_eq_false_iff_ne]; exact hq
    have t4 : (q != 0) = true := by rw [bne_iff_ne]; exact hq
    clear c1 hE hq HWF
    go_enter Try.func6, Try.ntmps6
    go_wp2_with fail
    refine C1.out.mono ?_
    rintro e w1 ⟨A1, n1, c1, rfl, sx, hc1, -, b2, -⟩
    have HB1 := Lib.hid (HA.out.trans (b2.mono HA.out.size))
    clear sx b2 HA HS p0 p1 p2 p3 p4 p5 p6 p7 p8 p9 p10 p11 p12 p13 p14
    have C9 := Lib.hid (awake_any w1)
    clear C1
    go_wp2_with fail
    refine C9.out.mono ?_
    rintro e w2 ⟨rfl, b3⟩
    have HB2 := Lib.hid (HB1.out.trans (b3.mono HB1.out.size))
    have C8 := Lib.hid (awake_any w2)
    clear C9 b3 HB1
    go_wp2_with fail
    refine C8.out.mono ?_
    rintro e w3 ⟨rfl, b4⟩
    have HB3 := Lib.hid (HB2.out.trans (b4.mono HB2.out.size))
    clear C8 b4 HB2
    go_wp2
    go_ret
    exact ⟨rfl, HB3.out⟩
  · rw [hE] at c1
    have hcut := fun (k : Nat) => msgRd_cut (m := ⟨kind, fs, fn, ts, tn, id, mn, fo, code, key, recs, vec, path, hashes, route⟩) (k := k) hL
    have hlong := fun (r : List UInt8) => msgRd_long (m := ⟨kind, fs, fn, ts, tn, id, mn, fo, code, key, recs, vec, path, hashes, route⟩) (r := r) hL
    obtain ⟨L1, hL1⟩ : ∃ L1, putF (msgB ⟨kind, fs, fn, ts, tn, id, mn, fo, code, key, recs, vec, path, hashes, route⟩) = L1 := ⟨_, rfl⟩
    have hl1 : L1.length ≤ 1048600 := by rw [← hL1, putF_len]; have := putNum_len (msgB ⟨kind, fs, fn, ts, tn, id, mn, fo, code, key, recs, vec, path, hashes, route⟩).length; omega
    rw [hL1] at c1 hcut hlong
    have C1 := Lib.hid c1
    have HCUT := Lib.hid hcut
    have HLONG := Lib.hid hlong
    clear c1 hE hL1 hR hL HWF hcut hlong
    go_enter Try.func6, Try.ntmps6
    go_wp2_with fail
    refine C1.out.mono ?_
    rintro e w1 ⟨A1, n1, c1, rfl, sx, hc1, -, b2, -⟩
    have HB1 := Lib.hid (HA.out.trans (b2.mono HA.out.size))
    have hn1 := sx.len
    have HS1 := Lib.hid (Sl.below HS.out b2)
    have HX1 := Lib.hid sx
    clear sx b2 HA HS p0 p1 p2 p3 p4 p5 p6 p7 p8 p9 p10 p11 p12 p13 p14
    by_cases h1 : ct < 0
    · clear HCUT HLONG HS1 HX1
      have C9 := Lib.hid (awake_any w1)
      clear C1
      go_wp2_with fail
      refine C9.out.mono ?_
      rintro e w2 ⟨rfl, b3⟩
      have HB2 := Lib.hid (HB1.out.trans (b3.mono HB1.out.size))
      have C8 := Lib.hid (awake_any w2)
      clear C9 b3 HB1
      go_wp2_with fail
      refine C8.out.mono ?_
      rintro e w3 ⟨rfl, b4⟩
      have HB3 := Lib.hid (HB2.out.trans (b4.mono HB2.out.size))
      clear C8 b4 HB2
      go_wp2
      go_ret
      exact ⟨rfl, HB3.out⟩
    by_cases h2 : (n1 : Int) ≤ ct
    · clear HCUT HLONG HS1 HX1
      have C9 := Lib.hid (awake_any w1)
      clear C1
      go_wp2_with fail
      refine C9.out.mono ?_
      rintro e w2 ⟨rfl, b3⟩
      have HB2 := Lib.hid (HB1.out.trans (b3.mono HB1.out.size))
      have C8 := Lib.hid (awake_any w2)
      clear C9 b3 HB1
      go_wp2_with fail
      refine C8.out.mono ?_
      rintro e w3 ⟨rfl, b4⟩
      have HB3 := Lib.hid (HB2.out.trans (b4.mono HB2.out.size))
      clear C8 b4 HB2
      go_wp2
      go_ret
      exact ⟨rfl, HB3.out⟩
    by_cases h3 : len = 0
    · have t5 : ((len : Int) == 0) = true := by rw [h3]; rfl
      clear HCUT HLONG HS1 HX1 h3
      have C9 := Lib.hid (awake_any w1)
      clear C1
      go_wp2_with fail
      refine C9.out.mono ?_
      rintro e w2 ⟨rfl, b3⟩
      have HB2 := Lib.hid (HB1.out.trans (b3.mono HB1.out.size))
      have C8 := Lib.hid (awake_any w2)
      clear C9 b3 HB1
      go_wp2_with fail
      refine C8.out.mono ?_
      rintro e w3 ⟨rfl, b4⟩
      have HB3 := Lib.hid (HB2.out.trans (b4.mono HB2.out.size))
      clear C8 b4 HB2
      go_wp2
      go_ret
      exact ⟨rfl, HB3.out⟩
    obtain ⟨k, rfl⟩ : ∃ k : Nat, ct = (k : Int) := ⟨ct.toNat, by omega⟩
    have hk : k < n1 := by omega
    have hk2 : decide (n1 ≤ k) = false := decide_eq_false (by omega)
    have hk3 : k ≤ c1 := by omega
    have t5 : ((len : Int) == 0) = false := by rw [beq_eq_false_iff_ne]; omega
    have hle1 : 1 ≤ len := by omega
    have C9 := Lib.hid (awake_any w1)
    clear C1 h1 h2 h3 hct
    go_wp2_with fail
    refine C9.out.mono ?_
    rintro e w2 ⟨rfl, b3⟩
    have HB2 := Lib.hid (HB1.out.trans (b3.mono HB1.out.size))
    have HS2 := Lib.hid (Sl.below HS1.out b3)
    have HX2 := Lib.hid (Sl.below HX1.out b3)
    have hx3 : SlB w2 A1 k (L1.take k) := by have h := Sl.take HX2.out (show k ≤ n1 by omega); rw [Nat.mul_one, bsV_take] at h; exact h
    have c3 := msg_any w2 A1 k c1 (L1.take k) hx3 hk3 (by omega)
    rw [HCUT.out k (by omega)] at c3
    have C3 := Lib.hid c3
    clear C9 b3 HB1 HS1 HX1 hx3 c3 HCUT
    go_wp2_with fail
    refine C3.out.mono ?_
    rintro e w3 ⟨rfl, b4⟩
    have bz : Below w3.heap.size w3 (w3.alloc (.cells #[.int .i64 0, .int .i64 0, .int .i64 0, .int .i64 0, .int .i64 0, .int .i64 0, .int .i64 0, .int .i64 0, .int .i64 0, .string ⟨#[]⟩, .slice none 0 0, .slice none 0 0, .slice none 0 0, .slice none 0 0, .slice none 0 0] 30)) := (Below.refl _ _).alloc (Nat.le_refl _) _
    have hz := heap_alloc_new w3 (.cells #[.int .i64 0, .int .i64 0, .int .i64 0, .int .i64 0, .int .i64 0, .int .i64 0, .int .i64 0, .int .i64 0, .int .i64 0, .string ⟨#[]⟩, .slice none 0 0, .slice none 0 0, .slice none 0 0, .slice none 0 0, .slice none 0 0] 30)
    have HB3 := Lib.hid ((HB2.out.trans (b4.mono HB2.out.size)).trans (bz.mono (HB2.out.trans (b4.mono HB2.out.size)).size))
    have HS3 := Lib.hid (Sl.below (Sl.below HS2.out b4) bz)
    have HX3 := Lib.hid (Sl.below (Sl.below HX2.out b4) bz)
    clear b4 bz hz C3 HB2 HS2 HX2
    go_wp2_with (first | (at_builtin; refine wpList_append_sl _ rfl (.tmp 48) (.tmp 49) 31 rfl ((w3.heap.size + 1)) 5 i0 (.int .u8 0) 1 1 Try.underlying31 hi hz0 hz1 hz2 rfl (by decide) (.slice none 0 0) (0) ([]) rfl (World.ownsRow_nil _ _ _ _) (A1) (n1) (c1) (bsV L1) rfl (HX3.out) (bsV_one _) (by unfold maxLen; omega) (by omega) ((by simp)) ?_) | fail)
    intro v wn ownn gn _
    obtain ⟨An, cn, rfl, -, -⟩ := own_slice ownn
    have HC := Lib.hid (Acc.first (w0 := w3.alloc (.cells #[.int .i64 0, .int .i64 0, .int .i64 0, .int .i64 0, .int .i64 0, .int .i64 0, .int .i64 0, .int .i64 0, .int .i64 0, .string ⟨#[]⟩, .slice none 0 0, .slice none 0 0, .slice none 0 0, .slice none 0 0, .slice none 0 0] 30)) (Below.refl _ _) (by simpa using ownn) gn)
    have hszq : w3.heap.size + 1 ≤ wn.heap.size := by have h := HC.out.below.size; simpa using h
    have hown := HC.out.own
    rw [show (w3.alloc (.cells #[.int .i64 0, .int .i64 0, .int .i64 0, .int .i64 0, .int .i64 0, .int .i64 0, .int .i64 0, .int .i64 0, .int .i64 0, .string ⟨#[]⟩, .slice none 0 0, .slice none 0 0, .slice none 0 0, .slice none 0 0, .slice none 0 0] 30)).heap.size = w3.heap.size + 1 by simp] at hown
    have HOW := Lib.hid hown
    clear ownn gn hown
    go_wp2_with (first | (at_builtin; refine wpList_append_sl _ rfl (.tmp 51) (.tmp 52) 31 rfl ((w3.heap.size + 1)) 5 i0 (.int .u8 0) 1 1 Try.underlying31 hi hz0 hz1 hz2 rfl (by decide) (.slice An n1 cn) (n1) (bsV L1) rfl (HOW.out) (a) (len) (cap) (bsV l) rfl ((HS3.out.below HC.out.below)) (bsV_one _) (by unfold maxLen; omega) (by omega) (hszq) ?_) | fail)
    intro v wm ownm gm _
    obtain ⟨Am, cm, rfl, -, -⟩ := own_slice ownm
    have HD := Lib.hid (HC.out.push (by simpa using ownm) gm)
    clear ownm gm hszq HOW
    have c5 := msg_any wm Am (n1 + len) cm (L1 ++ l) (Sl.of_own HD.out.own) (own_cap HD.out.own) (by omega)
    rw [HLONG.out l (fun e => by rw [e] at hll; simp at hll; omega)] at c5
    have C5 := Lib.hid c5
    have HB5 := Lib.hid (HB3.out.trans (HD.out.below.mono HB3.out.size))
    clear c5 HD HC HB3 HS3 HX3 HLONG
    go_wp2_with fail
    refine C5.out.mono ?_
    rintro e w6 ⟨rfl, b6⟩
    have bz : Below w6.heap.size w6 (w6.alloc (.cells #[.int .i64 0, .int .i64 0, .int .i64 0, .int .i64 0, .int .i64 0, .int .i64 0, .int .i64 0, .int .i64 0, .int .i64 0, .string ⟨#[]⟩, .slice none 0 0, .slice none 0 0, .slice none 0 0, .slice none 0 0, .slice none 0 0] 30)) := (Below.refl _ _).alloc (Nat.le_refl _) _
    have hz := heap_alloc_new w6 (.cells #[.int .i64 0, .int .i64 0, .int .i64 0, .int .i64 0, .int .i64 0, .int .i64 0, .int .i64 0, .int .i64 0, .int .i64 0, .string ⟨#[]⟩, .slice none 0 0, .slice none 0 0, .slice none 0 0, .slice none 0 0, .slice none 0 0] 30)
    have HB6 := Lib.hid ((HB5.out.trans (b6.mono HB5.out.size)).trans (bz.mono (HB5.out.trans (b6.mono HB5.out.size)).size))
    clear b6 bz hz C5 HB5
    go_wp2
    go_ret
    exact ⟨rfl, HB6.out⟩
end Go.Proofs.Ytgnedaihchmoaaa
