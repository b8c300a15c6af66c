/-
  firthref06.rec, PutRec: what the document writes of a record.
-/
import Derived.Test.YtgnedaihchmoaaaCodeRefWrite
import Derived.Test.YtgnedaihchmoaaaMG
namespace Go.Proofs.Ytgnedaihchmoaaa
open Go.RowKit
set_option linter.unusedVariables false

theorem nums1 (n : Int) : numsB [n] = putNum n := by unfold numsB; simp
theorem nums2 (a b : Int) : numsB [a, b] = putNum a ++ putNum b := by unfold numsB; simp
theorem putNum_nat (n : Nat) : putNum (n : Int) = putN 8 n := by simp [putNum]
/-- nums of a literal that was just laid. -/
theorem refNums_lit (w0 w w' : World) (A : Option Addr) (m c : Nat) (L : List UInt8) (g : Nat) (cs : Array Value) (n : Nat) (l : List Int) (h : Acc w0 w A m c L) (hg : w'.heap[g]? = some (.cells cs 2 (0, 0))) (hw : Below w.heap.size w w') (hc : cs.toList = l.map i64V) (hl : l.length = n)
    (hv : ∀ x ∈ l, x ≤ 9223372036854775807) (hm : m + 9 * n ≤ 100000000000000) :
    Calls Try.prog 86 #[.slice A m c, .slice (some ⟨g, 0, none⟩) n n] w' (AccE w0 w' (L ++ numsB l)) := by
  refine refNums_any w0 w' A m c L (some ⟨g, 0, none⟩) n n l (h.move hw) ⟨by rw [List.length_map]; omega, fun _ => ⟨g, 0, rfl, fun j u hj => ?_⟩⟩ hv (fun b off s _ e => .inr (by injection e with e; injection e with e1 e2 e3; subst e1; exact ⟨_, hg⟩)) hm
  rw [Nat.zero_add, cell_of_row w' g j cs _ (0, 0) hg]
  rw [← hc] at hj
  simpa using hj
set_option maxHeartbeats 4000000 in
set_option maxRecDepth 100000 in
theorem refRec_any (w0 w : World) (A : Option Addr) (m c : Nat) (L : List UInt8) (r : Rc) (Av : Option Addr) (nv cv : Nat) (h : Acc w0 w A m c L) (hs : SlV w0 Av nv r.vers) (hr : rightR r = true) (hm : m ≤ 80000000000000) :
    Calls Try.prog 76 #[.slice A m c, .agg #[.string r.key, .slice Av nv cv]] w (AccE w0 w (L ++ recB r)) := by
  obtain ⟨i0, hi, hz0, hz1, hz2⟩ := info_parts Try.infoU8
  have hll := hs.len
  obtain ⟨key, l⟩ := r
  obtain ⟨k1, k2, k3⟩ := rightR_true.1 hr
  have k4 := (rightV_true.1 k3)
  have hl512 := k4.2
  simp only at k1 k2 k3 hl512 hll hs ⊢
  have bA : Below w.heap.size w (w.alloc (.cells #[.string key, .slice Av nv cv] 48)) := (Below.refl _ _).alloc (Nat.le_refl _) _
  have hb := heap_alloc_new w (.cells #[.string key, .slice Av nv cv] 48)
  have HA0 := Lib.hid (h.move bA)
  have HK0 := Lib.hid (WKeep.of_below bA)
  have HX0 := Lib.hid hb
  have HS := Lib.hid hs
  have HG := Lib.hid (fun x hx => (k4.1.1 x hx).1)
  have hLm := h.len
  have g0 := row_cell (j := 0) hb rfl
  have C1 := Lib.hid (refPutText_any key (w.alloc (.cells #[.string key, .slice Av nv cv] 48)) (by omega))
  have htl := txtB_len key
  clear h bA hb hs hr k3 k4
  go_enter Try.func76, Try.ntmps76
  go_wp2_with fail
  refine C1.out.mono ?_
  intro e w1 h1
  obtain ⟨A1, n1, c1, rfl, s1, hc1, hm1, b1, -⟩ := h1.read
  have hn1 := s1.len
  have HS1 := Lib.hid s1
  have HA1 := Lib.hid (HA0.out.move b1)
  have HK1 := Lib.hid (HK0.out.trans (WKeep.of_below b1))
  have HX1 := Lib.hid ((b1.block _ (lt_of_block HX0.out)).trans HX0.out)
  have hsz := HA1.out.below.size
  clear h1 s1 b1 C1 g0 HA0 HK0 HX0
  have hn1' : n1 ≤ 9 + key.size := by unfold txtB at htl; rw [putNum_nat] at hn1; omega
  clear hn1
  go_wp2_with (first | (at_builtin; refine wpList_append_sl _ rfl (.tmp 7) (.tmp 10) 31 rfl (w0.heap.size) 5 i0 (.int .u8 0) 1 1 Try.underlying31 hi hz0 hz1 hz2 rfl (by decide) (.slice A m c) (m) (bsV L) rfl (HA1.out.own) (A1) (n1) (c1) (bsV (putNum key.size ++ key.data.toList)) rfl (HS1.out) (bsV_one _) (by unfold maxLen; omega) (by omega) (hsz) ?_) | fail)
  intro v3 w3 own3 g3 _
  obtain ⟨A3, c3, rfl, -, -⟩ := own_slice own3
  have HA3 := Lib.hid (HA1.out.push own3 g3)
  have HK3 := Lib.hid (HK1.out.trans (HA1.out.keeps g3))
  have HX3 := Lib.hid (HA1.out.keeps g3 |>.2 _ _ _ _ HX1.out (by decide) (by decide))
  have g1 := row_cell (j := 1) HX3.out rfl
  have hbx := lt_of_block HX3.out
  have C2 := Lib.hid (refNums_lit w0 w3 (w3.alloc (.cells #[.int .i64 (nv : Int)] 2)) A3 (m + n1) c3 _ w3.heap.size _ 1 [(nv : Int)] HA3.out (heap_alloc_new w3 _) ((Below.refl _ _).alloc (Nat.le_refl _) _) rfl rfl (by intro x hx; rw [List.mem_singleton.1 hx]; omega) (by omega))
  clear own3 g3 HA1 HK1 HX1 HS1 hsz
  go_wp2_with fail
  refine C2.out.mono ?_
  rintro e w4 ⟨A4, m4, c4, rfl, h4, k4⟩
  have hm4 := h4.len
  have hm3 := HA3.out.len
  have hm4' : m4 ≤ m + n1 + 9 := by rw [List.length_append, hm3, nums1, putNum_nat] at hm4; have := putN_len 8 nv; omega
  have HA4 := Lib.hid (show Acc w0 w4 A4 m4 c4 (L ++ (txtB key ++ putN 8 nv) ++ (l.take 0).flatMap verB) from by rw [nums1, putNum_nat, putNum_nat] at h4; simpa [txtB] using h4)
  have HK4 := Lib.hid (HK3.out.trans ((WKeep.of_below ((Below.refl _ w3).alloc (Nat.le_refl _) _)).trans k4))
  have HX4 := Lib.hid (k4.2 _ _ _ _ ((Below.heap_alloc w3 _ _ hbx).trans HX3.out) (by decide) (by decide))
  clear h4 k4 C2 HA3 HK3 HX3 g1 hbx hm4 hm3
  go_wp2
  go_loopw [0, 5] (fun v i wr => ∃ (j mo co : Nat) (Ao : Option Addr), v = .slice Ao mo co ∧ i = .int .i64 (j : Int) ∧ j ≤ nv ∧ mo ≤ m + 50 + 28000 * j ∧ Hid (Acc w0 wr Ao mo co (L ++ (txtB key ++ putN 8 nv) ++ (l.take j).flatMap verB)) ∧ Hid (WKeep w wr) ∧ Hid (wr.heap[w.heap.size]? = some (.cells #[.string key, .slice Av nv cv] 48 (0, 0)))) (fun _ i _ => nv - (intOf i).toNat)
  case atStart => exact ⟨0, m4, c4, A4, rfl, rfl, Nat.zero_le _, by omega, HA4, HK4, HX4⟩
  case round =>
    obtain ⟨j, mo, co, Ao, rfl, rfl, hj, hmo, HA, HK, HX⟩ := hrel
    have g1 := row_cell (j := 1) HX.out rfl
    by_cases hlt : j < nv
    · obtain ⟨b, off, v, Ap, np, cp, rfl, hx, hr, hc0, hc1, hc2, hc3, hc4⟩ := HS.out.at_ hlt
      have hok := HG.out _ (List.mem_of_getElem? hx)
      have hbl := HA.out.below
      have hc0 := cell_up hc0 hbl
      have hc1 := cell_up hc1 hbl
      have hc2 := cell_up hc2 hbl
      have hc3 := cell_up hc3 hbl
      have hc4 := cell_up hc4 hbl
      have HT := Lib.hid (flat_take (L ++ (txtB key ++ putN 8 nv)) verB hx)
      have hvl := verB_len hok
      have HOK := Lib.hid hok
      obtain ⟨o1, o2, -, o4, -⟩ := okVB_true.1 hok
      rw [dotB_true] at o1
      have HP := Lib.hid (rightS_true.1 o2)
      have hnp := hr.sl.len
      have HPL := Lib.hid hnp
      have hn1024 : np ≤ 1024 := by have := HP.out.2; omega
      have HSP := Lib.hid hr.sl
      obtain ⟨s, vn, past, gone, val⟩ := v
      simp only at hc0 hc1 hc2 hc3 hc4 o1 o4 hnp
      obtain ⟨o11, o12, o13, o14⟩ := o1
      have bA : Below wr.heap.size wr (wr.alloc (.cells #[.int .i64 s, .int .i64 vn, .slice Ap np cp, .bool gone, .string val] 53)) := (Below.refl _ _).alloc (Nat.le_refl _) _
      have hbx := lt_of_block HX.out
      have X6 := heap_alloc_new wr (.cells #[.int .i64 s, .int .i64 vn, .slice Ap np cp, .bool gone, .string val] 53)
      have HX6 := Lib.hid ((Below.heap_alloc wr (.cells #[.int .i64 s, .int .i64 vn, .slice Ap np cp, .bool gone, .string val] 53) _ hbx).trans HX.out)
      have v0 := row_cell (j := 0) X6 rfl
      have v1 := row_cell (j := 1) X6 rfl
      have HV6 := Lib.hid X6
      have bA2 := bA.alloc bA.size (.cells #[.int .i64 s, .int .i64 vn] 2)
      have e2 := heap_alloc_new (wr.alloc (.cells #[.int .i64 s, .int .i64 vn, .slice Ap np cp, .bool gone, .string val] 53)) (.cells #[.int .i64 s, .int .i64 vn] 2)
      rw [show (wr.alloc (.cells #[.int .i64 s, .int .i64 vn, .slice Ap np cp, .bool gone, .string val] 53)).heap.size = wr.heap.size + 1 by simp] at e2
      have C2 := Lib.hid (refNums_lit w0 wr _ Ao mo co _ (wr.heap.size + 1) _ 2 [s, vn] HA.out e2 bA2 rfl rfl (by intro x hx; simp only [List.mem_cons, List.mem_nil_iff, or_false] at hx; rcases hx with rfl | rfl <;> omega) (by omega))
      have HK6 := Lib.hid (HK.out.trans (WKeep.of_below bA2))
      have HV7 := Lib.hid ((Below.heap_alloc _ (.cells #[.int .i64 s, .int .i64 vn] 2) wr.heap.size (by simp)).trans HV6.out)
      have HX7 := Lib.hid ((Below.heap_alloc _ (.cells #[.int .i64 s, .int .i64 vn] 2) w.heap.size (by simp; omega)).trans HX6.out)
      clear hx bA hok hr hbl X6 bA2 e2
      go_wp2_with fail
      refine C2.out.mono ?_
      rintro e w5 ⟨A5, m5, c5, rfl, h5, k5⟩
      have hm5 : m5 ≤ mo + 18 := by
        have e1 := h5.len
        have e2 := HA.out.len
        have := putNum_len s
        have := putNum_len vn
        rw [List.length_append, e2, nums2, List.length_append] at e1
        omega
      have HV8 := Lib.hid (k5.2 _ _ _ _ HV7.out (by decide) (by decide))
      have HX8 := Lib.hid (k5.2 _ _ _ _ HX7.out (by decide) (by decide))
      have HK8 := Lib.hid (HK6.out.trans k5)
      have HA8 := Lib.hid h5
      have C3 := Lib.hid (refSpans_any w0 w5 A5 m5 c5 _ Ap np cp past h5 HSP.out HP.out.1.1 hn1024 (by omega))
      have v2 := row_cell (j := 2) HV8.out rfl
      clear h5 k5 C2 HV7 HX7 HK6 v0 v1 HV6 HX6 hc0 hc1 hc2 hc3 hc4 g1
      go_wp2_with fail
      refine C3.out.mono ?_
      rintro e w6 ⟨A6, m6, c6, rfl, h6, k6⟩
      have hm6 : m6 ≤ m5 + 27657 := by
        have e1 := h6.len
        have e2 := HA8.out.len
        have e3 := HP.out.2
        have := putN_len 8 past.length
        have := spsB_len past
        rw [List.length_append, e2] at e1
        unfold setB at e1
        rw [List.length_append] at e1
        omega
      have HV9 := Lib.hid (k6.2 _ _ _ _ HV8.out (by decide) (by decide))
      have HX9 := Lib.hid (k6.2 _ _ _ _ HX8.out (by decide) (by decide))
      have HK9 := Lib.hid (HK8.out.trans k6)
      have HA9 := Lib.hid h6
      have v3 := row_cell (j := 3) HV9.out rfl
      have hv9 := lt_of_block HV9.out
      have hx9 := lt_of_block HX9.out
      have bB : Below w6.heap.size w6 (w6.alloc (.cells #[.int .i64 (if gone then 1 else 0)] 2)) := (Below.refl _ _).alloc (Nat.le_refl _) _
      have C4 := Lib.hid (refNums_lit w0 w6 _ A6 m6 c6 _ w6.heap.size _ 1 [if gone then 1 else 0] h6 (heap_alloc_new w6 (.cells #[.int .i64 (if gone then 1 else 0)] 2)) bB rfl rfl (by intro x hx; rw [List.mem_singleton.1 hx]; split <;> omega) (by omega))
      have HV10 := Lib.hid ((Below.heap_alloc w6 (.cells #[.int .i64 (if gone then 1 else 0)] 2) _ hv9).trans HV9.out)
      have HX10 := Lib.hid ((Below.heap_alloc w6 (.cells #[.int .i64 (if gone then 1 else 0)] 2) _ hx9).trans HX9.out)
      have HK10 := Lib.hid (HK9.out.trans (WKeep.of_below bB))
      clear h6 k6 C3 HV8 HX8 HK8 HA8 v2 HV9 HX9 HK9 hv9 hx9 bB
      have hlenT := HA9.out.len
      cases gone with
      | true =>
        simp only [if_true] at C4 HV10 HX10 HK10
        go_wp2_with fail
        refine C4.out.mono ?_
        rintro e w7 ⟨A7, m7, c7, rfl, h7, k7⟩
        have hE : L ++ (txtB key ++ putN 8 nv) ++ (l.take j).flatMap verB ++ numsB [s, vn] ++ setB past ++ numsB [1] = L ++ (txtB key ++ putN 8 nv) ++ (l.take (j + 1)).flatMap verB := by
          rw [← HT.out, nums2, nums1]; unfold verB tailB; simp [putNum, List.append_assoc]
        have hm7 : m7 ≤ mo + 28000 := by
          have e1 := h7.len
          have := putN_len 8 1
          rw [List.length_append, hlenT, nums1] at e1
          simp only [putNum] at e1
          have e5 : (putN 8 (Int.toNat 1)).length ≤ 9 := by have := putN_len 8 (Int.toNat 1); omega
          omega
        have HA11 := Lib.hid (show Acc w0 w7 A7 m7 c7 (L ++ (txtB key ++ putN 8 nv) ++ (l.take (j + 1)).flatMap verB) from by rw [← hE]; exact h7)
        have HX11 := Lib.hid (k7.2 _ _ _ _ HX10.out (by decide) (by decide))
        have HK11 := Lib.hid (HK10.out.trans k7)
        clear h7 k7 C4 hE HX10 HK10 HV10 v3 hlenT
        go_wp2
        go_roundw
        case rel => exact ⟨j + 1, m7, c7, A7, rfl, by go_num, by omega, by omega, HA11, HK11, HX11⟩
        case measure => simp [intOf]; omega
      | false =>
        simp only [Bool.false_eq_true, if_false] at C4 HV10 HX10 HK10
        go_wp2_with fail
        refine C4.out.mono ?_
        rintro e w7 ⟨A7, m7, c7, rfl, h7, k7⟩
        have hm7 : m7 ≤ m6 + 9 := by
          have e1 := h7.len
          rw [List.length_append, hlenT, nums1] at e1
          simp only [putNum] at e1
          have e5 : (putN 8 (Int.toNat 0)).length ≤ 9 := by have := putN_len 8 (Int.toNat 0); omega
          omega
        obtain ⟨Q, hQ⟩ : ∃ Q, L ++ (txtB key ++ putN 8 nv) ++ (l.take j).flatMap verB ++ numsB [s, vn] ++ setB past ++ numsB [0] = Q := ⟨_, rfl⟩
        rw [hQ] at h7
        have HQ := Lib.hid hQ
        clear hQ
        have HV11 := Lib.hid (k7.2 _ _ _ _ HV10.out (by decide) (by decide))
        have HX11 := Lib.hid (k7.2 _ _ _ _ HX10.out (by decide) (by decide))
        have HK11 := Lib.hid (HK10.out.trans k7)
        have v4 := row_cell (j := 4) HV11.out rfl
        have HA11 := Lib.hid h7
        have C5 := Lib.hid (refPutText_any val w7 (by omega))
        clear h7 k7 C4 HX10 HK10 HV10 v3 hlenT
        go_wp2_with fail
        refine C5.out.mono ?_
        intro e w8 h8
        obtain ⟨A8, n8, c8, rfl, s8, hc8, hm8, b8, -⟩ := h8.read
        have hn8 : n8 ≤ 9 + val.size := by have h9 := s8.len; rw [putNum_nat] at h9; have := txtB_len val; unfold txtB at this; omega
        have HS8 := Lib.hid s8
        have HA12 := Lib.hid (HA11.out.move b8)
        have HX12 := Lib.hid ((b8.block _ (lt_of_block HX11.out)).trans HX11.out)
        have HK12 := Lib.hid (HK11.out.trans (WKeep.of_below b8))
        have hsz := HA12.out.below.size
        clear h8 s8 b8 C5 HA11 HX11 HK11 v4
        go_wp2_with (first | (at_builtin; refine wpList_append_sl _ rfl (.tmp 51) (.tmp 54) 31 rfl (w0.heap.size) 5 i0 (.int .u8 0) 1 1 Try.underlying31 hi hz0 hz1 hz2 rfl (by decide) (.slice A7 m7 c7) (m7) (bsV Q) rfl (HA12.out.own) (A8) (n8) (c8) (bsV (putNum val.size ++ val.data.toList)) rfl (HS8.out) (bsV_one _) (by unfold maxLen; omega) (by omega) (hsz) ?_) | fail)
        intro v9 w9 own9 g9 _
        obtain ⟨A9, c9, rfl, -, -⟩ := own_slice own9
        have hE : Q ++ (putNum val.size ++ val.data.toList) = L ++ (txtB key ++ putN 8 nv) ++ (l.take (j + 1)).flatMap verB := by
          rw [← HQ.out, ← HT.out, nums2, nums1, putNum_nat]; unfold verB tailB txtB; simp [putNum, List.append_assoc]
        have HA13 := Lib.hid (show Acc w0 w9 A9 (m7 + n8) c9 (L ++ (txtB key ++ putN 8 nv) ++ (l.take (j + 1)).flatMap verB) from by rw [← hE]; exact HA12.out.push own9 g9)
        have HK13 := Lib.hid (HK12.out.trans (HA12.out.keeps g9))
        have HX13 := Lib.hid ((HA12.out.keeps g9).2 _ _ _ _ HX12.out (by decide) (by decide))
        clear own9 g9 hE HX12 HK12 HA12 HS8 hsz HV11
        go_wp2
        go_roundw
        case rel => exact ⟨j + 1, m7 + n8, c9, A9, rfl, by go_num, by omega, by omega, HA13, HK13, HX13⟩
        case measure => simp [intOf]; omega
    · obtain rfl : nv = j := by omega
      go_wp2
      go_ret
      refine ⟨_, _, _, rfl, ?_, HK.out⟩
      have h := HA.out
      rw [List.take_of_length_le (by omega)] at h
      unfold recB listB
      rw [hll]
      simpa [List.append_assoc] using h
theorem refPutRec_any (w : World) (r : Rc) (Av : Option Addr) (nv cv : Nat) (hs : SlV w Av nv r.vers) (hr : rightR r = true) :
    Calls Try.prog 26 #[.agg #[.string r.key, .slice Av nv cv]] w (NewBytes w (recB r)) := by
  have bA : Below w.heap.size w (w.alloc (.cells #[.string r.key, .slice Av nv cv] 48)) := (Below.refl _ _).alloc (Nat.le_refl _) _
  have hb := heap_alloc_new w (.cells #[.string r.key, .slice Av nv cv] 48)
  have C := Lib.hid (refRec_any w _ none 0 0 [] r Av nv cv ⟨World.ownsRow_nil _ _ _ _, bA⟩ hs hr (by omega))
  have g0 := row_cell (j := 0) hb rfl
  have g1 := row_cell (j := 1) hb rfl
  clear hs hr hb bA
  go_enter Try.func26, Try.ntmps26
  go_wp2_with fail
  refine C.out.mono ?_
  rintro e w1 ⟨A1, m1, c1, rfl, h1, -⟩
  have H1 := Lib.hid h1
  clear h1 C
  go_wp2
  go_ret
  have h := H1.out
  rw [List.nil_append] at h
  have e1 := h.len
  exact ⟨_, rfl, by rw [e1]; exact h.own, h.below⟩
end Go.Proofs.Ytgnedaihchmoaaa
