/-
  firthref06.Inner: what is in a message's frame. (Printed by tools/refmsg.py.)
-/
import Derived.Test.YtgnedaihchmoaaaCodeRefRec
import Derived.Test.YtgnedaihchmoaaaCodePutMsg
namespace Go.Proofs.Ytgnedaihchmoaaa
open Go.RowKit
set_option linter.unusedVariables false

theorem nums9 (a b c d e f g h i : Int) : numsB [a, b, c, d, e, f, g, h, i] = putNum a ++ (putNum b ++ (putNum c ++ (putNum d ++ (putNum e ++ (putNum f ++ (putNum g ++ (putNum h ++ putNum i))))))) := by unfold numsB; simp
theorem nums_cat (l : List Int) : numsB l = l.flatMap putNum := rfl
theorem one_at' {α : Type} {f : α → Value} {w : World} {A : Option Addr} {n k : Nat} {l : List α} (h : Sl w A n 1 (l.map f)) (hk : k < n) :
    ∃ b off x, A = some ⟨b, off, none⟩ ∧ l[k]? = some x ∧ w.cell? ⟨b, off + k, none⟩ = some (f x) := by
  obtain ⟨b, off, u, rfl, hu, hc⟩ := Sl.at1 h hk
  rw [List.getElem?_map, Option.map_eq_some_iff] at hu
  obtain ⟨z, h1, rfl⟩ := hu
  exact ⟨b, off, z, rfl, h1, hc⟩
set_option maxHeartbeats 8000000 in
set_option maxRecDepth 100000 in
theorem refInner_any (w : World) (x : Mx) (hv : MRow w x) (hR : rightM x.m = true) (hnr : x.nr ≤ 1048576) :
    Calls Try.prog 42 #[.agg x.cells] w (NewBytes w (msgB x.m)) := by
  obtain ⟨i0, hi, hz0, hz1, hz2⟩ := info_parts Try.infoU8
  have hr := rightM_true.1 hR
  have e9 := hv.recs.len
  have HT := putMsg_len (recs := x.m.recs) (kind := x.m.kind) (fs := x.m.fs) (fn := x.m.fn) (ts := x.m.ts) (tn := x.m.tn) (id := x.m.id) (n := x.m.n) (fo := x.m.fo) (code := x.m.code) (key := x.m.key) (vec := x.m.vec) (path := x.m.path) (hashes := x.m.hashes) (route := x.m.route) hr (by omega)
  have HV := Lib.hid hv
  clear hR
  obtain ⟨⟨kind, fs, fn, ts, tn, id, mn, fo, code, key, recs, vec, path, hashes, route⟩, Ar, nr, cr, Av, nv, cv, Ap, np, cp, Ah, nh, ch, Ao, no, co⟩ := x
  simp only [Mx.cells] at *
  have bA : Below w.heap.size w (w.alloc (.cells #[.int .i64 kind, .int .i64 fs, .int .i64 fn, .int .i64 ts, .int .i64 tn, .int .i64 id, .int .i64 mn, .int .i64 fo, .int .i64 code, .string key, .slice Ar nr cr, .slice Av nv cv, .slice Ap np cp, .slice Ah nh ch, .slice Ao no co] 30)) := (Below.refl _ _).alloc (Nat.le_refl _) _
  have hb := heap_alloc_new w (.cells #[.int .i64 kind, .int .i64 fs, .int .i64 fn, .int .i64 ts, .int .i64 tn, .int .i64 id, .int .i64 mn, .int .i64 fo, .int .i64 code, .string key, .slice Ar nr cr, .slice Av nv cv, .slice Ap np cp, .slice Ah nh ch, .slice Ao no co] 30)
  obtain ⟨g1, g2, g3, g4, g5, g6, g7, g8, g9, g10, g11, g12, g13⟩ := hr
  simp only at g1 g2 g3 g4 g5 g6 g7 g8 g9 g10 g11 g12 g13
  have w6 := hv.wid
  have w7 := hv.wn
  simp only at w6 w7
  have l10 : nv ≤ 16 := by have := Sl.len1 hv.vec; have := g10.2; simp only at *; omega
  have l11 : np ≤ 2 := by have := Sl.len1 hv.path; have := g11.2; simp only at *; omega
  have l12 : nh ≤ 16 := by have := Sl.len1 hv.hashes; simp only at *; omega
  have l13 : no ≤ 16 := by have := Sl.len1 hv.route; have := g13.2; simp only at *; omega
  have HG9 := Lib.hid g9
  have HG10 := Lib.hid (fun x (hx : x ∈ vec) => (show x ≤ 9223372036854775807 by have := g10.1 x hx; omega))
  have HG11 := Lib.hid (fun x (hx : x ∈ path) => (show x ≤ 9223372036854775807 by have := g11.1 x hx; omega))
  have HG13 := Lib.hid (fun x (hx : x ∈ route) => (show x ≤ 9223372036854775807 by have := g13.1 x hx; omega))
  have HT := Lib.hid HT
  have p0 := row_cell (j := 0) hb rfl
  have p1 := row_cell (j := 1) hb rfl
  have p2 := row_cell (j := 2) hb rfl
  have p3 := row_cell (j := 3) hb rfl
  have p4 := row_cell (j := 4) hb rfl
  have p5 := row_cell (j := 5) hb rfl
  have p6 := row_cell (j := 6) hb rfl
  have p7 := row_cell (j := 7) hb rfl
  have p8 := row_cell (j := 8) hb rfl
  have e1 := heap_alloc_new (w.alloc (.cells #[.int .i64 kind, .int .i64 fs, .int .i64 fn, .int .i64 ts, .int .i64 tn, .int .i64 id, .int .i64 mn, .int .i64 fo, .int .i64 code, .string key, .slice Ar nr cr, .slice Av nv cv, .slice Ap np cp, .slice Ah nh ch, .slice Ao no co] 30)) (.cells #[.int .i64 kind, .int .i64 fs, .int .i64 fn, .int .i64 ts, .int .i64 tn, .int .i64 id, .int .i64 mn, .int .i64 fo, .int .i64 code] 2)
  rw [show (w.alloc (.cells #[.int .i64 kind, .int .i64 fs, .int .i64 fn, .int .i64 ts, .int .i64 tn, .int .i64 id, .int .i64 mn, .int .i64 fo, .int .i64 code, .string key, .slice Ar nr cr, .slice Av nv cv, .slice Ap np cp, .slice Ah nh ch, .slice Ao no co] 30)).heap.size = w.heap.size + 1 by simp] at e1
  have bz : Below (w.alloc (.cells #[.int .i64 kind, .int .i64 fs, .int .i64 fn, .int .i64 ts, .int .i64 tn, .int .i64 id, .int .i64 mn, .int .i64 fo, .int .i64 code, .string key, .slice Ar nr cr, .slice Av nv cv, .slice Ap np cp, .slice Ah nh ch, .slice Ao no co] 30)).heap.size (w.alloc (.cells #[.int .i64 kind, .int .i64 fs, .int .i64 fn, .int .i64 ts, .int .i64 tn, .int .i64 id, .int .i64 mn, .int .i64 fo, .int .i64 code, .string key, .slice Ar nr cr, .slice Av nv cv, .slice Ap np cp, .slice Ah nh ch, .slice Ao no co] 30)) ((w.alloc (.cells #[.int .i64 kind, .int .i64 fs, .int .i64 fn, .int .i64 ts, .int .i64 tn, .int .i64 id, .int .i64 mn, .int .i64 fo, .int .i64 code, .string key, .slice Ar nr cr, .slice Av nv cv, .slice Ap np cp, .slice Ah nh ch, .slice Ao no co] 30)).alloc (.cells #[.int .i64 kind, .int .i64 fs, .int .i64 fn, .int .i64 ts, .int .i64 tn, .int .i64 id, .int .i64 mn, .int .i64 fo, .int .i64 code] 2)) := (Below.refl _ _).alloc (Nat.le_refl _) _
  have C := Lib.hid (refNums_lit w _ _ none 0 0 [] (w.heap.size + 1) _ 9 [kind, fs, fn, ts, tn, id, mn, fo, code] ⟨World.ownsRow_nil _ _ _ _, bA⟩ e1 bz rfl rfl (by intro x hx; simp only [List.mem_cons, List.mem_nil_iff, or_false] at hx; rcases hx with rfl | rfl | rfl | rfl | rfl | rfl | rfl | rfl | rfl <;> omega) (by omega))
  have HX := Lib.hid ((Below.heap_alloc _ (.cells #[.int .i64 kind, .int .i64 fs, .int .i64 fn, .int .i64 ts, .int .i64 tn, .int .i64 id, .int .i64 mn, .int .i64 fo, .int .i64 code] 2) w.heap.size (by simp)).trans hb)
  clear e1 bz hb bA g1 g2 g3 g4 g5 g6 g7 g9 g10 g11 g12 g13 w6 w7 hv e9
  go_enter Try.func42, Try.ntmps42
  go_wp2_with fail
  refine C.out.mono ?_
  rintro e w1 ⟨A1, m1, c1, rfl, h1, k1⟩
  have hm1 : m1 ≤ 81 := by have e1 := h1.len; have := numsB_len [kind, fs, fn, ts, tn, id, mn, fo, code]; simp only [List.length_append, List.length_nil, List.length_cons] at *; omega
  have HX1 := Lib.hid (k1.2 _ _ _ _ HX.out (by decide) (by decide))
  obtain ⟨Q1, hQ⟩ : ∃ Q, [] ++ numsB [kind, fs, fn, ts, tn, id, mn, fo, code] = Q := ⟨_, rfl⟩
  rw [hQ] at h1
  have HQ1 := Lib.hid (show Q1 = putNum kind ++ (putNum fs ++ (putNum fn ++ (putNum ts ++ (putNum tn ++ (putNum id ++ (putNum mn ++ (putNum fo ++ putNum code))))))) from by rw [← hQ, List.nil_append, nums9])
  have HA1 := Lib.hid h1
  have p9 := row_cell (j := 9) HX1.out rfl
  have C2 := Lib.hid (refPutText_any key w1 (by omega))
  clear h1 k1 C HX hQ p0 p1 p2 p3 p4 p5 p6 p7 p8
  go_wp2_with fail
  refine C2.out.mono ?_
  intro e w2 h2
  obtain ⟨A2, n2, c2, rfl, s2, hc2, hm2, b2, -⟩ := h2.read
  have hn2 : n2 ≤ 41 := by have h9 := s2.len; rw [putNum_nat] at h9; have := txtB_len key; unfold txtB at this; omega
  have HS2 := Lib.hid s2
  have HA2 := Lib.hid (HA1.out.move b2)
  have HX2 := Lib.hid ((b2.block _ (lt_of_block HX1.out)).trans HX1.out)
  have hsz := HA2.out.below.size
  clear h2 s2 b2 C2 HA1 HX1 p9
  go_wp2_with (first | (at_builtin; refine wpList_append_sl _ rfl (.tmp 32) (.tmp 35) 31 rfl (w.heap.size) 5 i0 (.int .u8 0) 1 1 Try.underlying31 hi hz0 hz1 hz2 rfl (by decide) (.slice A1 m1 c1) (m1) (bsV Q1) rfl (HA2.out.own) (A2) (n2) (c2) (bsV (putNum key.size ++ key.data.toList)) rfl (HS2.out) (bsV_one _) (by unfold maxLen; omega) (by omega) (hsz) ?_) | fail)
  intro v3 w3 own3 g3 _
  obtain ⟨A3, c3, rfl, -, -⟩ := own_slice own3
  obtain ⟨Q3, hQ⟩ : ∃ Q, Q1 ++ (putNum key.size ++ key.data.toList) = Q := ⟨_, rfl⟩
  have HA3 := Lib.hid (show Acc w w3 A3 (m1 + n2) c3 Q3 from by rw [← hQ]; exact HA2.out.push own3 g3)
  have HQ3 := Lib.hid (show Q3 = Q1 ++ txtB key from by rw [← hQ, putNum_nat]; rfl)
  have HX3 := Lib.hid ((HA2.out.keeps g3).2 _ _ _ _ HX2.out (by decide) (by decide))
  obtain ⟨m3, hm3⟩ : ∃ m3, m1 + n2 = m3 := ⟨_, rfl⟩
  have hb3 : m3 ≤ 130 := by omega
  rw [hm3] at HA3
  clear own3 g3 HA2 HX2 HS2 hsz hQ
  simp only [hm3]
  clear hm3
  have p10 := row_cell (j := 10) HX3.out rfl
  have hbx := lt_of_block HX3.out
  have C := Lib.hid (refNums_lit w w3 (w3.alloc (.cells #[.int .i64 (nr : Int)] 2)) A3 m3 c3 _ w3.heap.size _ 1 [(nr : Int)] HA3.out (heap_alloc_new w3 _) ((Below.refl _ _).alloc (Nat.le_refl _) _) rfl rfl (by intro x hx; rw [List.mem_singleton.1 hx]; omega) (by omega))
  have HX' := Lib.hid ((Below.heap_alloc w3 (.cells #[.int .i64 (nr : Int)] 2) _ hbx).trans HX3.out)
  have hlo := HA3.out.len
  go_wp2_with fail
  refine C.out.mono ?_
  rintro e w4 ⟨A4, m4, c4, rfl, h1, k1⟩
  have hb4 : m4 ≤ 139 := by have e1 := h1.len; rw [List.length_append, hlo, nums1, putNum_nat] at e1; have := putN_len 8 nr; omega
  obtain ⟨Q4, hQ⟩ : ∃ Q, Q3 ++ numsB [(nr : Int)] = Q := ⟨_, rfl⟩
  rw [hQ] at h1
  have HQ4 := Lib.hid (show Q4 = Q3 ++ putN 8 nr from by rw [← hQ, nums1, putNum_nat])
  have HA4 := Lib.hid h1
  have HX4 := Lib.hid (k1.2 _ _ _ _ HX'.out (by decide) (by decide))
  clear h1 k1 C HX' hQ HA3 HX3 hbx hlo hb3 p10
  go_wp2
  go_loopw [3, 4] (fun v i wr => ∃ (j mq cq : Nat) (Aq : Option Addr), v = .slice Aq mq cq ∧ i = .int .i64 (j : Int) ∧ j ≤ nr ∧ Hid (mq ≤ 139 + 14336050 * j) ∧ Hid (Acc w wr Aq mq cq (Q4 ++ (recs.take j).flatMap recB)) ∧ Hid (wr.heap[w.heap.size]? = some (.cells #[.int .i64 kind, .int .i64 fs, .int .i64 fn, .int .i64 ts, .int .i64 tn, .int .i64 id, .int .i64 mn, .int .i64 fo, .int .i64 code, .string key, .slice Ar nr cr, .slice Av nv cv, .slice Ap np cp, .slice Ah nh ch, .slice Ao no co] 30 (0, 0)))) (fun _ i _ => nr - (intOf i).toNat)
  case atStart => exact ⟨0, m4, c4, A4, rfl, rfl, Nat.zero_le _, Lib.hid (by omega), by have h := HA4; simpa using h, HX4⟩
  case round =>
    obtain ⟨j, mq, cq, Aq, rfl, rfl, hj, HMO, HA, HX⟩ := hrel
    have hmo := HMO.out
    clear HA4 HX4
    have p := row_cell (j := 10) HX.out rfl
    have hbx := lt_of_block HX.out
    by_cases hlt : j < nr
    · obtain ⟨b, off, r, Apv, np', cp', rfl, hx, hr, hc0, hc1⟩ := HV.out.recs.at_ hlt
      have hc0 := cell_up hc0 HA.out.below
      have hc1 := cell_up hc1 HA.out.below
      have hok := HG9.out _ (List.mem_of_getElem? hx)
      have HE := Lib.hid (flat_take Q4 recB hx)
      have hrl := recB_len hok
      have C := Lib.hid (refRec_any w wr Aq mq cq _ r Apv np' cp' HA.out hr.sl hok (by omega))
      have hlo := HA.out.len
      obtain ⟨rk, rv⟩ := r
      simp only at hc0 hc1 C
      clear hx hr hok
      go_wp2_with fail
      refine C.out.mono ?_
      rintro e w5 ⟨A5, m5, c5, rfl, h5, k5⟩
      have hm5 : m5 ≤ mq + 14336050 := by have e1 := h5.len; rw [List.length_append, hlo] at e1; omega
      have HM6 := Lib.hid (show m5 ≤ 139 + 14336050 * (j + 1) from Nat.le_trans hm5 (by rw [Nat.mul_succ]; have h := hmo; clear hm5 hrl hlo; omega))
      clear hm5 hrl hlo
      have HA5 := Lib.hid (show Acc w w5 A5 m5 c5 (Q4 ++ (recs.take (j + 1)).flatMap recB) from by rw [← HE.out]; exact h5)
      have HX5 := Lib.hid (k5.2 _ _ _ _ HX.out (by decide) (by decide))
      clear h5 k5 C HA HX p hc0 hc1
      go_wp2
      go_roundw
      case rel => exact ⟨j + 1, m5, c5, A5, rfl, by go_num, by omega, HM6, HA5, HX5⟩
      case measure => simp [intOf]; omega
    · obtain rfl : nr = j := by omega
      obtain ⟨Q5, hQ⟩ : ∃ Q, Q4 ++ recs.flatMap recB = Q := ⟨_, rfl⟩
      have HA5 := Lib.hid (show Acc w wr Aq mq cq Q5 from by have h := HA.out; rw [List.take_of_length_le (by have h2 := HV.out.recs.len; simp only at h2; omega), hQ] at h; exact h)
      have HQ5 := Lib.hid hQ.symm
      have hb5 : mq ≤ 15100000000000 := by omega
      have HX5 := HX
      clear HA HX hbx hQ HMO hmo
      obtain ⟨w5, rfl⟩ : ∃ z : World, z = wr := ⟨_, rfl⟩
      obtain ⟨A5, rfl⟩ : ∃ z, z = Aq := ⟨_, rfl⟩
      obtain ⟨m5, rfl⟩ : ∃ z, z = mq := ⟨_, rfl⟩
      obtain ⟨c5, rfl⟩ : ∃ z, z = cq := ⟨_, rfl⟩
      have p11 := row_cell (j := 11) HX5.out rfl
      have hbx := lt_of_block HX5.out
      have C := Lib.hid (refNums_lit w w5 (w5.alloc (.cells #[.int .i64 (nv : Int)] 2)) A5 m5 c5 _ w5.heap.size _ 1 [(nv : Int)] HA5.out (heap_alloc_new w5 _) ((Below.refl _ _).alloc (Nat.le_refl _) _) rfl rfl (by intro x hx; rw [List.mem_singleton.1 hx]; omega) (by omega))
      have HX' := Lib.hid ((Below.heap_alloc w5 (.cells #[.int .i64 (nv : Int)] 2) _ hbx).trans HX5.out)
      have hlo := HA5.out.len
      go_wp2_with fail
      refine C.out.mono ?_
      rintro e w6 ⟨A6, m6, c6, rfl, h1, k1⟩
      have hb6 : m6 ≤ 15100000000009 := by have e1 := h1.len; rw [List.length_append, hlo, nums1, putNum_nat] at e1; have := putN_len 8 nv; omega
      obtain ⟨Q6, hQ⟩ : ∃ Q, Q5 ++ numsB [(nv : Int)] = Q := ⟨_, rfl⟩
      rw [hQ] at h1
      have HQ6 := Lib.hid (show Q6 = Q5 ++ putN 8 nv from by rw [← hQ, nums1, putNum_nat])
      have HA6 := Lib.hid h1
      have HX6 := Lib.hid (k1.2 _ _ _ _ HX'.out (by decide) (by decide))
      clear h1 k1 C HX' hQ HA5 HX5 hbx hlo hb5 p11
      have p11 := row_cell (j := 11) HX6.out rfl
      have C := Lib.hid (refNums_any w w6 A6 m6 c6 Q6 Av nv cv vec HA6.out (Sl.below HV.out.vec HA6.out.below) HG10.out (fun b off s hn e => .inl (Sl.blk_lt HV.out.vec (b := b) (off := off) (s := s) (by simp only; omega) e)) (by omega))
      have hlo := HA6.out.len
      go_wp2_with fail
      refine C.out.mono ?_
      rintro e w7 ⟨A7, m7, c7, rfl, h1, k1⟩
      have hb7 : m7 ≤ 15100000000200 := by have e1 := h1.len; rw [List.length_append, hlo] at e1; have := numsB_len vec; have := Sl.len1 HV.out.vec; simp only at *; omega
      obtain ⟨Q7, hQ⟩ : ∃ Q, Q6 ++ numsB vec = Q := ⟨_, rfl⟩
      rw [hQ] at h1
      have HQ7 := Lib.hid (show Q7 = Q6 ++ vec.flatMap putNum from by rw [← hQ, nums_cat])
      have HA7 := Lib.hid h1
      have HX7 := Lib.hid (k1.2 _ _ _ _ HX6.out (by decide) (by decide))
      clear h1 k1 C hQ HA6 HX6 hlo hb6 p11
      have p12 := row_cell (j := 12) HX7.out rfl
      have hbx := lt_of_block HX7.out
      have C := Lib.hid (refNums_lit w w7 (w7.alloc (.cells #[.int .i64 (np : Int)] 2)) A7 m7 c7 _ w7.heap.size _ 1 [(np : Int)] HA7.out (heap_alloc_new w7 _) ((Below.refl _ _).alloc (Nat.le_refl _) _) rfl rfl (by intro x hx; rw [List.mem_singleton.1 hx]; omega) (by omega))
      have HX' := Lib.hid ((Below.heap_alloc w7 (.cells #[.int .i64 (np : Int)] 2) _ hbx).trans HX7.out)
      have hlo := HA7.out.len
      go_wp2_with fail
      refine C.out.mono ?_
      rintro e w8 ⟨A8, m8, c8, rfl, h1, k1⟩
      have hb8 : m8 ≤ 15100000000210 := by have e1 := h1.len; rw [List.length_append, hlo, nums1, putNum_nat] at e1; have := putN_len 8 np; omega
      obtain ⟨Q8, hQ⟩ : ∃ Q, Q7 ++ numsB [(np : Int)] = Q := ⟨_, rfl⟩
      rw [hQ] at h1
      have HQ8 := Lib.hid (show Q8 = Q7 ++ putN 8 np from by rw [← hQ, nums1, putNum_nat])
      have HA8 := Lib.hid h1
      have HX8 := Lib.hid (k1.2 _ _ _ _ HX'.out (by decide) (by decide))
      clear h1 k1 C HX' hQ HA7 HX7 hbx hlo hb7 p12
      go_wp2
      go_loopw [3, 5] (fun v i wr => ∃ (j mq cq : Nat) (Aq : Option Addr), v = .slice Aq mq cq ∧ i = .int .i64 (j : Int) ∧ j ≤ np ∧ Hid (mq ≤ 15100000000210 + 9 * j) ∧ Hid (Acc w wr Aq mq cq (Q8 ++ (path.take j).flatMap putNum)) ∧ Hid (wr.heap[w.heap.size]? = some (.cells #[.int .i64 kind, .int .i64 fs, .int .i64 fn, .int .i64 ts, .int .i64 tn, .int .i64 id, .int .i64 mn, .int .i64 fo, .int .i64 code, .string key, .slice Ar nr cr, .slice Av nv cv, .slice Ap np cp, .slice Ah nh ch, .slice Ao no co] 30 (0, 0)))) (fun _ i _ => np - (intOf i).toNat)
      case atStart => exact ⟨0, m8, c8, A8, rfl, rfl, Nat.zero_le _, Lib.hid (by omega), by have h := HA8; simpa using h, HX8⟩
      case round =>
        obtain ⟨j, mq, cq, Aq, rfl, rfl, hj, HMO, HA, HX⟩ := hrel
        have hmo := HMO.out
        clear HA8 HX8
        have p := row_cell (j := 12) HX.out rfl
        have hbx := lt_of_block HX.out
        by_cases hlt : j < np
        · obtain ⟨b, off, x, rfl, hx, hc⟩ := one_at' (Sl.below HV.out.path HA.out.below) hlt
          have hxb := HG11.out x (List.mem_of_getElem? hx)
          have HE := Lib.hid (flat_take Q8 putNum hx)
          have C := Lib.hid (refNums_lit w wr (wr.alloc (.cells #[.int .i64 x] 2)) Aq mq cq _ wr.heap.size _ 1 [x] HA.out (heap_alloc_new wr _) ((Below.refl _ _).alloc (Nat.le_refl _) _) rfl rfl (by intro y hy; rw [List.mem_singleton.1 hy]; exact hxb) (by omega))
          have HX' := Lib.hid ((Below.heap_alloc wr (.cells #[.int .i64 x] 2) _ hbx).trans HX.out)
          have hlo := HA.out.len
          clear hx
          go_wp2_with fail
          refine C.out.mono ?_
          rintro e w9 ⟨A9, m9, c9, rfl, h5, k5⟩
          have hm9 : m9 ≤ mq + 9 := by have e1 := h5.len; rw [List.length_append, hlo, nums1] at e1; have := (putNum_len x).2; omega
          have HA9 := Lib.hid (show Acc w w9 A9 m9 c9 (Q8 ++ (path.take (j + 1)).flatMap putNum) from by rw [← HE.out, ← nums1 x]; exact h5)
          have HX9 := Lib.hid (k5.2 _ _ _ _ HX'.out (by decide) (by decide))
          clear h5 k5 C HA HX HX' p hc
          go_wp2
          go_roundw
          case rel => exact ⟨j + 1, m9, c9, A9, rfl, by go_num, by omega, Lib.hid (by omega), HA9, HX9⟩
          case measure => simp [intOf]; omega
        · obtain rfl : np = j := by omega
          obtain ⟨Q9, hQ⟩ : ∃ Q, Q8 ++ path.flatMap putNum = Q := ⟨_, rfl⟩
          have HA9 := Lib.hid (show Acc w wr Aq mq cq Q9 from by have h := HA.out; rw [List.take_of_length_le (by have h2 := Sl.len1 HV.out.path; simp only at h2; omega), hQ] at h; exact h)
          have HQ9 := Lib.hid hQ.symm
          have hb9 : mq ≤ 15100000000300 := by omega
          have HX9 := HX
          clear HA HX hbx hQ HMO hmo
          obtain ⟨w9, rfl⟩ : ∃ z : World, z = wr := ⟨_, rfl⟩
          obtain ⟨A9, rfl⟩ : ∃ z, z = Aq := ⟨_, rfl⟩
          obtain ⟨m9, rfl⟩ : ∃ z, z = mq := ⟨_, rfl⟩
          obtain ⟨c9, rfl⟩ : ∃ z, z = cq := ⟨_, rfl⟩
          have p13 := row_cell (j := 13) HX9.out rfl
          have hbx := lt_of_block HX9.out
          have C := Lib.hid (refNums_lit w w9 (w9.alloc (.cells #[.int .i64 (nh : Int)] 2)) A9 m9 c9 _ w9.heap.size _ 1 [(nh : Int)] HA9.out (heap_alloc_new w9 _) ((Below.refl _ _).alloc (Nat.le_refl _) _) rfl rfl (by intro x hx; rw [List.mem_singleton.1 hx]; omega) (by omega))
          have HX' := Lib.hid ((Below.heap_alloc w9 (.cells #[.int .i64 (nh : Int)] 2) _ hbx).trans HX9.out)
          have hlo := HA9.out.len
          go_wp2_with fail
          refine C.out.mono ?_
          rintro e w10 ⟨A10, m10, c10, rfl, h1, k1⟩
          have hb10 : m10 ≤ 15100000000310 := by have e1 := h1.len; rw [List.length_append, hlo, nums1, putNum_nat] at e1; have := putN_len 8 nh; omega
          obtain ⟨Q10, hQ⟩ : ∃ Q, Q9 ++ numsB [(nh : Int)] = Q := ⟨_, rfl⟩
          rw [hQ] at h1
          have HQ10 := Lib.hid (show Q10 = Q9 ++ putN 8 nh from by rw [← hQ, nums1, putNum_nat])
          have HA10 := Lib.hid h1
          have HX10 := Lib.hid (k1.2 _ _ _ _ HX'.out (by decide) (by decide))
          clear h1 k1 C HX' hQ HA9 HX9 hbx hlo hb9 p13
          go_wp2
          go_loopw [3, 6] (fun v i wr => ∃ (j mq cq : Nat) (Aq : Option Addr), v = .slice Aq mq cq ∧ i = .int .i64 (j : Int) ∧ j ≤ nh ∧ Hid (mq ≤ 15100000000310 + 18 * j) ∧ Hid (Acc w wr Aq mq cq (Q10 ++ (hashes.take j).flatMap hshB)) ∧ Hid (wr.heap[w.heap.size]? = some (.cells #[.int .i64 kind, .int .i64 fs, .int .i64 fn, .int .i64 ts, .int .i64 tn, .int .i64 id, .int .i64 mn, .int .i64 fo, .int .i64 code, .string key, .slice Ar nr cr, .slice Av nv cv, .slice Ap np cp, .slice Ah nh ch, .slice Ao no co] 30 (0, 0)))) (fun _ i _ => nh - (intOf i).toNat)
          case atStart => exact ⟨0, m10, c10, A10, rfl, rfl, Nat.zero_le _, Lib.hid (by omega), by have h := HA10; simpa using h, HX10⟩
          case round =>
            obtain ⟨j, mq, cq, Aq, rfl, rfl, hj, HMO, HA, HX⟩ := hrel
            have hmo := HMO.out
            clear HA10 HX10
            have p := row_cell (j := 13) HX.out rfl
            have hbx := lt_of_block HX.out
            by_cases hlt : j < nh
            · obtain ⟨b, off, x, rfl, hx, hcw⟩ := one_at' HV.out.hashes hlt
              have hc := cell_up hcw HA.out.below
              have hxb := HV.out.wh x (List.mem_of_getElem? hx)
              have HE := Lib.hid (flat_take Q10 hshB hx)
              have bD : Below wr.heap.size wr (wr.alloc (.cells #[.int .i64 (x / 4294967296), .int .i64 (x % 4294967296)] 2)).drew := ((Below.refl _ _).alloc (Nat.le_refl _) _).drew
              have C := Lib.hid (refNums_lit w wr (wr.alloc (.cells #[.int .i64 (x / 4294967296), .int .i64 (x % 4294967296)] 2)).drew Aq mq cq _ wr.heap.size _ 2 [x / 4294967296, x % 4294967296] HA.out (heap_alloc_new wr _) bD rfl rfl (by intro y hy; simp only [List.mem_cons, List.mem_nil_iff, or_false] at hy; rcases hy with rfl | rfl <;> omega) (by omega))
              have HX' := Lib.hid (show (wr.alloc (.cells #[.int .i64 (x / 4294967296), .int .i64 (x % 4294967296)] 2)).drew.heap[w.heap.size]? = _ from (Below.heap_alloc wr (.cells #[.int .i64 (x / 4294967296), .int .i64 (x % 4294967296)] 2) _ hbx).trans HX.out)
              have hlo := HA.out.len
              have j0 : (0 : Int) ≤ (j : Int) := by omega
              have j1 : (j : Int) < (nh : Int) := by omega
              have E1 := Lib.hid (show IntKind.i64.wrap (IntKind.u64.wrap (x.tdiv 4294967296)) = x / 4294967296 from by
                rw [Int.tdiv_eq_ediv_of_nonneg (by omega), IntWalk.u64_in _ (by omega), IntWalk.i64_in _ (by omega)])
              have E2 := Lib.hid (show IntKind.i64.wrap (x.tmod 4294967296) = x % 4294967296 from by
                rw [Int.tmod_eq_emod_of_nonneg (by omega), IntWalk.i64_in _ (by omega)])
              have HC := Lib.hid (And.intro p hc)
              have HCW := Lib.hid hcw
              clear hx bD hcw
              go_wp2_with fail
              refine wp_region_noPanic ?_
              refine wp_region_held_drew (S := (fun w' => w'.cell? ⟨w.heap.size, 13, none⟩ = some (.slice (some ⟨b, off, none⟩) nh ch) ∧ w'.cell? ⟨b, off + j, none⟩ = some (.int .u64 x))) (by kernel_rfl) ?_ (fun hHeld => ?_)
              · exact HC.out
              first
                | (refine wpAnyH_take (i := 0) (oi := _) (v := undef) (dropAt rfl) (by kernel_rfl) (by kernel_rfl) (by kernel_rfl) (fun _ _ _ h => h) (Or.inr ⟨by rfl, rfl⟩) (by assumption) ?_)
                | (refine wpAnyH_take (i := 0) (oi := _) (v := ?_) (dropAt rfl) (by kernel_rfl) (by kernel_rfl) (by kernel_rfl) (fun _ _ _ h => h) (Or.inl ⟨by rfl, ?_⟩) (by assumption) ?_; rotate_left; (focus (intro w2 hSw; (try dsimp only at hSw); go_simp; try with_reducible rfl)))
                | fail
              try simp only [Act.put, List.setIfInBounds_toArray, List.set_cons_zero, List.set_cons_succ]
              first
                | (refine wpAnyH_take (i := 1) (oi := _) (v := undef) (dropAt rfl) (by kernel_rfl) (by kernel_rfl) (by kernel_rfl) (fun _ _ _ h => h) (Or.inr ⟨by rfl, rfl⟩) (by assumption) ?_)
                | (refine wpAnyH_take (i := 1) (oi := _) (v := ?_) (dropAt rfl) (by kernel_rfl) (by kernel_rfl) (by kernel_rfl) (fun _ _ _ h => h) (Or.inl ⟨by rfl, ?_⟩) (by assumption) ?_; rotate_left; (focus (intro w2 hSw; (try dsimp only at hSw); go_simp; try with_reducible rfl)))
                | fail
              try simp only [Act.put, List.setIfInBounds_toArray, List.set_cons_zero, List.set_cons_succ]
              first
                | (refine wpAnyH_take (i := 2) (oi := _) (v := undef) (dropAt rfl) (by kernel_rfl) (by kernel_rfl) (by kernel_rfl) (fun _ _ _ h => h) (Or.inr ⟨by rfl, rfl⟩) (by assumption) ?_)
                | (refine wpAnyH_take (i := 2) (oi := _) (v := ?_) (dropAt rfl) (by kernel_rfl) (by kernel_rfl) (by kernel_rfl) (fun _ _ _ h => h) (Or.inl ⟨by rfl, ?_⟩) (by assumption) ?_; rotate_left; (focus (intro w2 hSw; (try dsimp only at hSw); go_simp; try with_reducible rfl)))
                | fail
              try simp only [Act.put, List.setIfInBounds_toArray, List.set_cons_zero, List.set_cons_succ]
              first
                | (refine wpAnyH_take (i := 3) (oi := _) (v := undef) (dropAt rfl) (by kernel_rfl) (by kernel_rfl) (by kernel_rfl) (fun _ _ _ h => h) (Or.inr ⟨by rfl, rfl⟩) (by assumption) ?_)
                | (refine wpAnyH_take (i := 3) (oi := _) (v := ?_) (dropAt rfl) (by kernel_rfl) (by kernel_rfl) (by kernel_rfl) (fun _ _ _ h => h) (Or.inl ⟨by rfl, ?_⟩) (by assumption) ?_; rotate_left; (focus (intro w2 hSw; (try dsimp only at hSw); go_simp; try with_reducible rfl)))
                | fail
              try simp only [Act.put, List.setIfInBounds_toArray, List.set_cons_zero, List.set_cons_succ]
              first
                | (refine wpAnyH_take (i := 4) (oi := _) (v := undef) (dropAt rfl) (by kernel_rfl) (by kernel_rfl) (by kernel_rfl) (fun _ _ _ h => h) (Or.inr ⟨by rfl, rfl⟩) (by assumption) ?_)
                | (refine wpAnyH_take (i := 4) (oi := _) (v := ?_) (dropAt rfl) (by kernel_rfl) (by kernel_rfl) (by kernel_rfl) (fun _ _ _ h => h) (Or.inl ⟨by rfl, ?_⟩) (by assumption) ?_; rotate_left; (focus (intro w2 hSw; (try dsimp only at hSw); go_simp; try with_reducible rfl)))
                | fail
              try simp only [Act.put, List.setIfInBounds_toArray, List.set_cons_zero, List.set_cons_succ]
              first
                | (refine wpAnyH_take (i := 5) (oi := _) (v := undef) (dropAt rfl) (by kernel_rfl) (by kernel_rfl) (by kernel_rfl) (fun _ _ _ h => h) (Or.inr ⟨by rfl, rfl⟩) (by assumption) ?_)
                | (refine wpAnyH_take (i := 5) (oi := _) (v := ?_) (dropAt rfl) (by kernel_rfl) (by kernel_rfl) (by kernel_rfl) (fun _ _ _ h => h) (Or.inl ⟨by rfl, ?_⟩) (by assumption) ?_; rotate_left; (focus (intro w2 hSw; (try dsimp only at hSw); go_simp; try with_reducible rfl)))
                | fail
              try simp only [Act.put, List.setIfInBounds_toArray, List.set_cons_zero, List.set_cons_succ]
              first
                | (refine wpAnyH_take (i := 6) (oi := _) (v := undef) (dropAt rfl) (by kernel_rfl) (by kernel_rfl) (by kernel_rfl) (fun _ _ _ h => h) (Or.inr ⟨by rfl, rfl⟩) (by assumption) ?_)
                | (refine wpAnyH_take (i := 6) (oi := _) (v := ?_) (dropAt rfl) (by kernel_rfl) (by kernel_rfl) (by kernel_rfl) (fun _ _ _ h => h) (Or.inl ⟨by rfl, ?_⟩) (by assumption) ?_; rotate_left; (focus (intro w2 hSw; (try dsimp only at hSw); go_simp; try with_reducible rfl)))
                | fail
              try simp only [Act.put, List.setIfInBounds_toArray, List.set_cons_zero, List.set_cons_succ]
              first
                | (refine wpAnyH_take (i := 7) (oi := _) (v := undef) (dropAt rfl) (by kernel_rfl) (by kernel_rfl) (by kernel_rfl) (fun _ _ _ h => h) (Or.inr ⟨by rfl, rfl⟩) (by assumption) ?_)
                | (refine wpAnyH_take (i := 7) (oi := _) (v := ?_) (dropAt rfl) (by kernel_rfl) (by kernel_rfl) (by kernel_rfl) (fun _ _ _ h => h) (Or.inl ⟨by rfl, ?_⟩) (by assumption) ?_; rotate_left; (focus (intro w2 hSw; (try dsimp only at hSw); go_simp; try with_reducible rfl)))
                | fail
              try simp only [Act.put, List.setIfInBounds_toArray, List.set_cons_zero, List.set_cons_succ]
              first
                | (refine wpAnyH_take (i := 8) (oi := _) (v := undef) (dropAt rfl) (by kernel_rfl) (by kernel_rfl) (by kernel_rfl) (fun _ _ _ h => h) (Or.inr ⟨by rfl, rfl⟩) (by assumption) ?_)
                | (refine wpAnyH_take (i := 8) (oi := _) (v := ?_) (dropAt rfl) (by kernel_rfl) (by kernel_rfl) (by kernel_rfl) (fun _ _ _ h => h) (Or.inl ⟨by rfl, ?_⟩) (by assumption) ?_; rotate_left; (focus (intro w2 hSw; (try dsimp only at hSw); go_simp; try with_reducible rfl)))
                | fail
              try simp only [Act.put, List.setIfInBounds_toArray, List.set_cons_zero, List.set_cons_succ]
              first
                | (refine wpAnyH_take (i := 9) (oi := _) (v := undef) (dropAt rfl) (by kernel_rfl) (by kernel_rfl) (by kernel_rfl) (fun _ _ _ h => h) (Or.inr ⟨by rfl, rfl⟩) (by assumption) ?_)
                | (refine wpAnyH_take (i := 9) (oi := _) (v := ?_) (dropAt rfl) (by kernel_rfl) (by kernel_rfl) (by kernel_rfl) (fun _ _ _ h => h) (Or.inl ⟨by rfl, ?_⟩) (by assumption) ?_; rotate_left; (focus (intro w2 hSw; (try dsimp only at hSw); go_simp; try with_reducible rfl)))
                | fail
              try simp only [Act.put, List.setIfInBounds_toArray, List.set_cons_zero, List.set_cons_succ]
              first
                | (refine wpAnyH_take (i := 10) (oi := _) (v := undef) (dropAt rfl) (by kernel_rfl) (by kernel_rfl) (by kernel_rfl) (fun _ _ _ h => h) (Or.inr ⟨by rfl, rfl⟩) (by assumption) ?_)
                | (refine wpAnyH_take (i := 10) (oi := _) (v := ?_) (dropAt rfl) (by kernel_rfl) (by kernel_rfl) (by kernel_rfl) (fun _ _ _ h => h) (Or.inl ⟨by rfl, ?_⟩) (by assumption) ?_; rotate_left; (focus (intro w2 hSw; (try dsimp only at hSw); go_simp; try with_reducible rfl)))
                | fail
              try simp only [Act.put, List.setIfInBounds_toArray, List.set_cons_zero, List.set_cons_succ]
              first
                | (refine wpAnyH_take (i := 11) (oi := _) (v := undef) (dropAt rfl) (by kernel_rfl) (by kernel_rfl) (by kernel_rfl) (fun _ _ _ h => h) (Or.inr ⟨by rfl, rfl⟩) (by assumption) ?_)
                | (refine wpAnyH_take (i := 11) (oi := _) (v := ?_) (dropAt rfl) (by kernel_rfl) (by kernel_rfl) (by kernel_rfl) (fun _ _ _ h => h) (Or.inl ⟨by rfl, ?_⟩) (by assumption) ?_; rotate_left; (focus (intro w2 hSw; (try dsimp only at hSw); go_simp; try with_reducible rfl)))
                | fail
              try simp only [Act.put, List.setIfInBounds_toArray, List.set_cons_zero, List.set_cons_succ]
              first
                | (refine wpAnyH_take (i := 12) (oi := _) (v := undef) (dropAt rfl) (by kernel_rfl) (by kernel_rfl) (by kernel_rfl) (fun _ _ _ h => h) (Or.inr ⟨by rfl, rfl⟩) (by assumption) ?_)
                | (refine wpAnyH_take (i := 12) (oi := _) (v := ?_) (dropAt rfl) (by kernel_rfl) (by kernel_rfl) (by kernel_rfl) (fun _ _ _ h => h) (Or.inl ⟨by rfl, ?_⟩) (by assumption) ?_; rotate_left; (focus (intro w2 hSw; (try dsimp only at hSw); go_simp; try with_reducible rfl)))
                | fail
              try simp only [Act.put, List.setIfInBounds_toArray, List.set_cons_zero, List.set_cons_succ]
              first
                | (refine wpAnyH_take (i := 13) (oi := _) (v := undef) (dropAt rfl) (by kernel_rfl) (by kernel_rfl) (by kernel_rfl) (fun _ _ _ h => h) (Or.inr ⟨by rfl, rfl⟩) (by assumption) ?_)
                | (refine wpAnyH_take (i := 13) (oi := _) (v := ?_) (dropAt rfl) (by kernel_rfl) (by kernel_rfl) (by kernel_rfl) (fun _ _ _ h => h) (Or.inl ⟨by rfl, ?_⟩) (by assumption) ?_; rotate_left; (focus (intro w2 hSw; (try dsimp only at hSw); go_simp; try with_reducible rfl)))
                | fail
              try simp only [Act.put, List.setIfInBounds_toArray, List.set_cons_zero, List.set_cons_succ]
              first
                | (refine wpAnyH_take (i := 14) (oi := _) (v := undef) (dropAt rfl) (by kernel_rfl) (by kernel_rfl) (by kernel_rfl) (fun _ _ _ h => h) (Or.inr ⟨by rfl, rfl⟩) (by assumption) ?_)
                | (refine wpAnyH_take (i := 14) (oi := _) (v := ?_) (dropAt rfl) (by kernel_rfl) (by kernel_rfl) (by kernel_rfl) (fun _ _ _ h => h) (Or.inl ⟨by rfl, ?_⟩) (by assumption) ?_; rotate_left; (focus (intro w2 hSw; (try dsimp only at hSw); go_simp; try with_reducible rfl)))
                | fail
              try simp only [Act.put, List.setIfInBounds_toArray, List.set_cons_zero, List.set_cons_succ]
              refine wpAnyH_ready (rs := [15]) (by kernel_rfl) (by simp) ?_
              refine AllReadyH.cons (o := _) (dropAt rfl) (fun K hK => ?_) AllReadyH.nil
              go_simp
              refine hK.out _ _ ?_ (fun hHeld => ?_)
              · exact ⟨(Below.cell ((Below.refl _ wr).alloc (Nat.le_refl _) _).drew (p := ⟨w.heap.size, 13, none⟩) hbx).trans HC.out.1, (Below.cell ((Below.refl _ wr).alloc (Nat.le_refl _) _).drew (p := ⟨b, off + j, none⟩) (World.block_lt_of_cell? _ _ HC.out.2)).trans HC.out.2⟩
              clear hK K
              try simp only [Act.put, List.setIfInBounds_toArray, List.set_cons_zero, List.set_cons_succ]
              refine wpAnyH_ready (rs := [16]) (by kernel_rfl) (by simp) ?_
              refine AllReadyH.cons (o := _) (dropAt rfl) (fun K hK => ?_) AllReadyH.nil
              go_simp
              (go_at_call 86; rw [E1.out, E2.out]; refine C.out.mono ?_; rintro e w9 ⟨A9, m9, c9, rfl, h5, k5⟩)
              refine hK.out _ _ ?_ (fun hHeld => ?_)
              · exact ⟨row_cell (j := 13) (k5.2 _ _ _ _ HX'.out (by decide) (by decide)) rfl, cell_up HCW.out h5.below⟩
              clear hK K
              try simp only [Act.put, List.setIfInBounds_toArray, List.set_cons_zero, List.set_cons_succ]
              first
                | (refine wpAnyH_take (i := 17) (oi := _) (v := undef) (dropAt rfl) (by kernel_rfl) (by kernel_rfl) (by kernel_rfl) (fun _ _ _ h => h) (Or.inr ⟨by rfl, rfl⟩) (by assumption) ?_)
                | (refine wpAnyH_take (i := 17) (oi := _) (v := ?_) (dropAt rfl) (by kernel_rfl) (by kernel_rfl) (by kernel_rfl) (fun _ _ _ h => h) (Or.inl ⟨by rfl, ?_⟩) (by assumption) ?_; rotate_left; (focus (intro w2 hSw; (try dsimp only at hSw); go_simp; try with_reducible rfl)))
                | fail
              try simp only [Act.put, List.setIfInBounds_toArray]
              refine wpAnyH_done (by kernel_rfl) ?_ _
              refine NoPanic.normal ?_
              have hm9 : m9 ≤ mq + 18 := by have e1 := h5.len; rw [List.length_append, hlo, nums2] at e1; have := (putNum_len (x / 4294967296)).2; have := (putNum_len (x % 4294967296)).2; rw [List.length_append] at e1; omega
              have HA9 := Lib.hid (show Acc w w9 A9 m9 c9 (Q10 ++ (hashes.take (j + 1)).flatMap hshB) from by rw [← HE.out, show hshB x = numsB [x / 4294967296, x % 4294967296] from (nums2 _ _).symm]; exact h5)
              have HX9 := Lib.hid (k5.2 _ _ _ _ HX'.out (by decide) (by decide))
              clear h5 k5 C HA HX HX' p hc hHeld hlo
              go_wp2
              go_roundw
              case rel => exact ⟨j + 1, m9, c9, A9, rfl, by go_num, by omega, Lib.hid (by omega), HA9, HX9⟩
              case measure => simp [intOf]; omega
            · obtain rfl : nh = j := by omega
              obtain ⟨Q11, hQ⟩ : ∃ Q, Q10 ++ hashes.flatMap hshB = Q := ⟨_, rfl⟩
              have HA11 := Lib.hid (show Acc w wr Aq mq cq Q11 from by have h := HA.out; rw [List.take_of_length_le (by have h2 := Sl.len1 HV.out.hashes; simp only at h2; omega), hQ] at h; exact h)
              have HQ11 := Lib.hid hQ.symm
              have hb11 : mq ≤ 15100000000600 := by omega
              have HX11 := HX
              clear HA HX hbx hQ HMO hmo
              obtain ⟨w11, rfl⟩ : ∃ z : World, z = wr := ⟨_, rfl⟩
              obtain ⟨A11, rfl⟩ : ∃ z, z = Aq := ⟨_, rfl⟩
              obtain ⟨m11, rfl⟩ : ∃ z, z = mq := ⟨_, rfl⟩
              obtain ⟨c11, rfl⟩ : ∃ z, z = cq := ⟨_, rfl⟩
              have p14 := row_cell (j := 14) HX11.out rfl
              have hbx := lt_of_block HX11.out
              have C := Lib.hid (refNums_lit w w11 (w11.alloc (.cells #[.int .i64 (no : Int)] 2)) A11 m11 c11 _ w11.heap.size _ 1 [(no : Int)] HA11.out (heap_alloc_new w11 _) ((Below.refl _ _).alloc (Nat.le_refl _) _) rfl rfl (by intro x hx; rw [List.mem_singleton.1 hx]; omega) (by omega))
              have HX' := Lib.hid ((Below.heap_alloc w11 (.cells #[.int .i64 (no : Int)] 2) _ hbx).trans HX11.out)
              have hlo := HA11.out.len
              go_wp2_with fail
              refine C.out.mono ?_
              rintro e w12 ⟨A12, m12, c12, rfl, h1, k1⟩
              have hb12 : m12 ≤ 15100000000610 := by have e1 := h1.len; rw [List.length_append, hlo, nums1, putNum_nat] at e1; have := putN_len 8 no; omega
              obtain ⟨Q12, hQ⟩ : ∃ Q, Q11 ++ numsB [(no : Int)] = Q := ⟨_, rfl⟩
              rw [hQ] at h1
              have HQ12 := Lib.hid (show Q12 = Q11 ++ putN 8 no from by rw [← hQ, nums1, putNum_nat])
              have HA12 := Lib.hid h1
              have HX12 := Lib.hid (k1.2 _ _ _ _ HX'.out (by decide) (by decide))
              clear h1 k1 C HX' hQ HA11 HX11 hbx hlo hb11 p14
              go_wp2
              go_loopw [3, 7] (fun v i wr => ∃ (j mq cq : Nat) (Aq : Option Addr), v = .slice Aq mq cq ∧ i = .int .i64 (j : Int) ∧ j ≤ no ∧ Hid (mq ≤ 15100000000610 + 9 * j) ∧ Hid (Acc w wr Aq mq cq (Q12 ++ (route.take j).flatMap putNum)) ∧ Hid (wr.heap[w.heap.size]? = some (.cells #[.int .i64 kind, .int .i64 fs, .int .i64 fn, .int .i64 ts, .int .i64 tn, .int .i64 id, .int .i64 mn, .int .i64 fo, .int .i64 code, .string key, .slice Ar nr cr, .slice Av nv cv, .slice Ap np cp, .slice Ah nh ch, .slice Ao no co] 30 (0, 0)))) (fun _ i _ => no - (intOf i).toNat)
              case atStart => exact ⟨0, m12, c12, A12, rfl, rfl, Nat.zero_le _, Lib.hid (by omega), by have h := HA12; simpa using h, HX12⟩
              case round =>
                obtain ⟨j, mq, cq, Aq, rfl, rfl, hj, HMO, HA, HX⟩ := hrel
                have hmo := HMO.out
                clear HA12 HX12
                have p := row_cell (j := 14) HX.out rfl
                have hbx := lt_of_block HX.out
                by_cases hlt : j < no
                · obtain ⟨b, off, x, rfl, hx, hc⟩ := one_at' (Sl.below HV.out.route HA.out.below) hlt
                  have hxb := HG13.out x (List.mem_of_getElem? hx)
                  have HE := Lib.hid (flat_take Q12 putNum hx)
                  have C := Lib.hid (refNums_lit w wr (wr.alloc (.cells #[.int .i64 x] 2)) Aq mq cq _ wr.heap.size _ 1 [x] HA.out (heap_alloc_new wr _) ((Below.refl _ _).alloc (Nat.le_refl _) _) rfl rfl (by intro y hy; rw [List.mem_singleton.1 hy]; exact hxb) (by omega))
                  have HX' := Lib.hid ((Below.heap_alloc wr (.cells #[.int .i64 x] 2) _ hbx).trans HX.out)
                  have hlo := HA.out.len
                  clear hx
                  go_wp2_with fail
                  refine C.out.mono ?_
                  rintro e w9 ⟨A9, m9, c9, rfl, h5, k5⟩
                  have hm9 : m9 ≤ mq + 9 := by have e1 := h5.len; rw [List.length_append, hlo, nums1] at e1; have := (putNum_len x).2; omega
                  have HA9 := Lib.hid (show Acc w w9 A9 m9 c9 (Q12 ++ (route.take (j + 1)).flatMap putNum) from by rw [← HE.out, ← nums1 x]; exact h5)
                  have HX9 := Lib.hid (k5.2 _ _ _ _ HX'.out (by decide) (by decide))
                  clear h5 k5 C HA HX HX' p hc
                  go_wp2
                  go_roundw
                  case rel => exact ⟨j + 1, m9, c9, A9, rfl, by go_num, by omega, Lib.hid (by omega), HA9, HX9⟩
                  case measure => simp [intOf]; omega
                · obtain rfl : no = j := by omega
                  obtain ⟨Q13, hQ⟩ : ∃ Q, Q12 ++ route.flatMap putNum = Q := ⟨_, rfl⟩
                  have HA13 := Lib.hid (show Acc w wr Aq mq cq Q13 from by have h := HA.out; rw [List.take_of_length_le (by have h2 := Sl.len1 HV.out.route; simp only at h2; omega), hQ] at h; exact h)
                  have HQ13 := Lib.hid hQ.symm
                  have hb13 : mq ≤ 15100000000800 := by omega
                  have HX13 := HX
                  clear HA HX hbx hQ HMO hmo
                  obtain ⟨w13, rfl⟩ : ∃ z : World, z = wr := ⟨_, rfl⟩
                  obtain ⟨A13, rfl⟩ : ∃ z, z = Aq := ⟨_, rfl⟩
                  obtain ⟨m13, rfl⟩ : ∃ z, z = mq := ⟨_, rfl⟩
                  obtain ⟨c13, rfl⟩ : ∃ z, z = cq := ⟨_, rfl⟩
                  have HH := Lib.hid (show msgB ⟨kind, fs, fn, ts, tn, id, mn, fo, code, key, recs, vec, path, hashes, route⟩ = Q13 from by
                    rw [HQ13.out, HQ12.out, HQ11.out, HQ10.out, HQ9.out, HQ8.out, HQ7.out, HQ6.out, HQ5.out, HQ4.out, HQ3.out, HQ1.out]
                    have h1 := HV.out.recs.len
                    have h2 := Sl.len1 HV.out.vec
                    have h3 := Sl.len1 HV.out.path
                    have h4 := Sl.len1 HV.out.hashes
                    have h5 := Sl.len1 HV.out.route
                    simp only at h1 h2 h3 h4 h5
                    unfold msgB listB
                    simp only [h1, h2, h3, h4, h5, List.append_assoc])
                  go_wp2
                  go_ret
                  have e1 := HA13.out.len
                  rw [HH.out]
                  exact ⟨_, rfl, by rw [e1]; exact HA13.out.own, HA13.out.below⟩
end Go.Proofs.Ytgnedaihchmoaaa
