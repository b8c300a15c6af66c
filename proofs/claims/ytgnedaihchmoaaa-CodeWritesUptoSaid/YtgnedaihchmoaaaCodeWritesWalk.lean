/-
  firthlaw06.CodeWrites. (Printed by tools/msglaws.py.)
-/
import Derived.Test.YtgnedaihchmoaaaCodeLaws
import Derived.Test.YtgnedaihchmoaaaCodeRefPutMsg
namespace Go.Proofs.Ytgnedaihchmoaaa
open Go.RowKit
set_option linter.unusedVariables false

theorem conv7 {w : World} {A : Option Addr} {n : Nat} {l : List UInt8} (h : SlB w A n l) (c : Nat) : (convert 31 9 (.slice A n c)).run Try.prog w = .ok (.string ⟨l.toArray⟩) w :=
  run_convert_SlB (P := Try.prog) h 31 5 9 Try.underlying31 Try.underlying5 Try.underlying9 c
set_option maxHeartbeats 8000000 in
set_option maxRecDepth 100000 in
theorem codeWrites_in (x : Mx) (W : World) (hr : MRow W x) (hn : x.nr ≤ 1048576) :
    Calls Try.prog 3 #[.agg x.cells] W (BoolE W true) := by
  obtain ⟨⟨kind, fs, fn, ts, tn, id, mn, fo, code, key, recs, vec, path, hashes, route⟩, Ar, nr, cr, Av, nv, cv, Ap, np, cp, Ah, nh, ch, Ao, no, co⟩ := x
  simp only [Mx.cells] at *
  have bA : Below W.heap.size W (W.alloc (.cells #[.int .i64 kind, .int .i64 fs, .int .i64 fn, .int .i64 ts, .int .i64 tn, .int .i64 id, .int .i64 mn, .int .i64 fo, .int .i64 code, .string key, .slice Ar nr cr, .slice Av nv cv, .slice Ap np cp, .slice Ah nh ch, .slice Ao no co] 30)) := (Below.refl _ _).alloc (Nat.le_refl _) _
  have hb := heap_alloc_new W (.cells #[.int .i64 kind, .int .i64 fs, .int .i64 fn, .int .i64 ts, .int .i64 tn, .int .i64 id, .int .i64 mn, .int .i64 fo, .int .i64 code, .string key, .slice Ar nr cr, .slice Av nv cv, .slice Ap np cp, .slice Ah nh ch, .slice Ao no co] 30)
  have HR := Lib.hid (hr.below bA)
  have c1 := putMsg_any _ ⟨⟨kind, fs, fn, ts, tn, id, mn, fo, code, key, recs, vec, path, hashes, route⟩, Ar, nr, cr, Av, nv, cv, Ap, np, cp, Ah, nh, ch, Ao, no, co⟩ HR.out hn
  simp only [Mx.cells] at c1
  obtain ⟨pe, hpe⟩ : ∃ pe, putMsgE ⟨kind, fs, fn, ts, tn, id, mn, fo, code, key, recs, vec, path, hashes, route⟩ = pe := ⟨_, rfl⟩
  rw [hpe] at c1
  obtain ⟨T, q⟩ := pe
  simp only at c1
  have HPE := Lib.hid hpe
  have C1 := Lib.hid c1
  have HA := Lib.hid bA
  have HX := Lib.hid hb
  obtain ⟨⟨p0, p1, p2, p3, p4⟩, ⟨p5, p6, p7, p8, p9⟩, p10, p11, p12, p13, p14⟩ := msg_cells hb
  clear c1 bA hb hr hpe
  go_enter Try.func3, Try.ntmps3
  go_wp2_with fail
  refine C1.out.mono ?_
  rintro e w1 ⟨A1, n1, c1, rfl, s1, -, -, b1, -⟩
  have HB1 := Lib.hid (HA.out.trans (b1.mono HA.out.size))
  have HR1 := Lib.hid (HR.out.below b1)
  have X1 := (b1.block _ (lt_of_block HX.out)).trans HX.out
  have HS1 := Lib.hid s1
  have c2 := refPutMsg_any w1 ⟨⟨kind, fs, fn, ts, tn, id, mn, fo, code, key, recs, vec, path, hashes, route⟩, Ar, nr, cr, Av, nv, cv, Ap, np, cp, Ah, nh, ch, Ao, no, co⟩ HR1.out hn
  simp only [Mx.cells] at c2
  rw [HPE.out] at c2
  have C2 := Lib.hid c2
  clear p0 p1 p2 p3 p4 p5 p6 p7 p8 p9 p10 p11 p12 p13 p14
  clear b1 s1 C1 c2 HR HX HA
  obtain ⟨⟨p0, p1, p2, p3, p4⟩, ⟨p5, p6, p7, p8, p9⟩, p10, p11, p12, p13, p14⟩ := msg_cells X1
  have HX1 := Lib.hid X1
  clear X1
  go_wp2_with fail
  refine C2.out.mono ?_
  rintro e w2 ⟨A2, n2, c2, rfl, s2, -, -, b2, -⟩
  have HB2 := Lib.hid (HB1.out.trans (b2.mono HB1.out.size))
  have HR2 := Lib.hid (HR1.out.below b2)
  have HX2 := Lib.hid ((b2.block _ (lt_of_block HX1.out)).trans HX1.out)
  have HS2 := Lib.hid (Sl.below HS1.out b2)
  have HT2 := Lib.hid s2
  have HSS := Lib.hid (fun (W' : World) (bl : Below w2.heap.size w2 W') => And.intro (conv7 (Sl.below HS2.out bl) c1) (And.intro (conv7 (Sl.below HT2.out bl) c2) (And.intro (msg_cells ((bl.block _ (lt_of_block HX2.out)).trans HX2.out)) bl)))
  clear p0 p1 p2 p3 p4 p5 p6 p7 p8 p9 p10 p11 p12 p13 p14
  clear b2 s2 C2 HB1 HR1 HX1 HS1
  go_wp2_with fail
  refine wp_region_noPanic ?_
  refine wp_region_held_drew (S := (fun w' => (convert 31 9 (.slice A1 n1 c1)).run Try.prog w' = .ok (.string ⟨T.toArray⟩) w' ∧ (convert 31 9 (.slice A2 n2 c2)).run Try.prog w' = .ok (.string ⟨T.toArray⟩) w' ∧ ((w'.cell? ⟨W.heap.size, 0, none⟩ = some (.int .i64 kind) ∧ w'.cell? ⟨W.heap.size, 1, none⟩ = some (.int .i64 fs) ∧ w'.cell? ⟨W.heap.size, 2, none⟩ = some (.int .i64 fn) ∧ w'.cell? ⟨W.heap.size, 3, none⟩ = some (.int .i64 ts) ∧ w'.cell? ⟨W.heap.size, 4, none⟩ = some (.int .i64 tn)) ∧ (w'.cell? ⟨W.heap.size, 5, none⟩ = some (.int .i64 id) ∧ w'.cell? ⟨W.heap.size, 6, none⟩ = some (.int .i64 mn) ∧ w'.cell? ⟨W.heap.size, 7, none⟩ = some (.int .i64 fo) ∧ w'.cell? ⟨W.heap.size, 8, none⟩ = some (.int .i64 code) ∧ w'.cell? ⟨W.heap.size, 9, none⟩ = some (.string key)) ∧ w'.cell? ⟨W.heap.size, 10, none⟩ = some (.slice Ar nr cr) ∧ w'.cell? ⟨W.heap.size, 11, none⟩ = some (.slice Av nv cv) ∧ w'.cell? ⟨W.heap.size, 12, none⟩ = some (.slice Ap np cp) ∧ w'.cell? ⟨W.heap.size, 13, none⟩ = some (.slice Ah nh ch) ∧ w'.cell? ⟨W.heap.size, 14, none⟩ = some (.slice Ao no co)) ∧ Below w2.heap.size w2 w')) (by kernel_rfl) ?_ (fun hHeld => ?_)
  · exact HSS.out _ (Below.refl _ _).drew
  refine wpAnyH_ready (rs := [0]) (by kernel_rfl) (by simp) ?_
  refine AllReadyH.cons (o := _) (dropAt rfl) (fun K hK => ?_) AllReadyH.nil
  go_simp
  (go_at_call 12; refine (awake_any _).mono ?_; rintro e w7 ⟨rfl, b7⟩)
  refine hK.out _ _ ?_ (fun hHeld => ?_)
  · exact HSS.out _ ((Below.refl _ _).drew.trans (b7.mono (by simp)))
  clear hK K
  try simp only [Act.put, List.setIfInBounds_toArray, List.set_cons_zero, List.set_cons_succ]
  have HH7 := Lib.hid hHeld.2.2.2
  clear b7
  first
    | (refine wpAnyH_take (i := 1) (oi := _) (v := undef) (dropAt rfl) (by kernel_rfl) (by kernel_rfl) (by kernel_rfl) (fun _ _ _ h => h) (Or.inr ⟨by rfl, rfl⟩) (by assumption) ?_)
    | (refine wpAnyH_take (i := 1) (oi := _) (v := ?_) (dropAt rfl) (by kernel_rfl) (by kernel_rfl) (by kernel_rfl) (fun _ _ _ h => h) (Or.inl ⟨by rfl, ?_⟩) (by assumption) ?_; rotate_left; (focus (intro w2 hSw; (try dsimp only at hSw); go_simp; try with_reducible rfl)))
    | fail
  try simp only [Act.put, List.setIfInBounds_toArray, List.set_cons_zero, List.set_cons_succ]
  first
    | (refine wpAnyH_take (i := 2) (oi := _) (v := undef) (dropAt rfl) (by kernel_rfl) (by kernel_rfl) (by kernel_rfl) (fun _ _ _ h => h) (Or.inr ⟨by rfl, rfl⟩) (by assumption) ?_)
    | (refine wpAnyH_take (i := 2) (oi := _) (v := ?_) (dropAt rfl) (by kernel_rfl) (by kernel_rfl) (by kernel_rfl) (fun _ _ _ h => h) (Or.inl ⟨by rfl, ?_⟩) (by assumption) ?_; rotate_left; (focus (intro w2 hSw; (try dsimp only at hSw); go_simp; try with_reducible rfl)))
    | fail
  try simp only [Act.put, List.setIfInBounds_toArray, List.set_cons_zero, List.set_cons_succ]
  first
    | (refine wpAnyH_take (i := 4) (oi := _) (v := undef) (dropAt rfl) (by kernel_rfl) (by kernel_rfl) (by kernel_rfl) (fun _ _ _ h => h) (Or.inr ⟨by rfl, rfl⟩) (by assumption) ?_)
    | (refine wpAnyH_take (i := 4) (oi := _) (v := ?_) (dropAt rfl) (by kernel_rfl) (by kernel_rfl) (by kernel_rfl) (fun _ _ _ h => h) (Or.inl ⟨by rfl, ?_⟩) (by assumption) ?_; rotate_left; (focus (intro w2 hSw; (try dsimp only at hSw); go_simp; try with_reducible rfl)))
    | fail
  try simp only [Act.put, List.setIfInBounds_toArray, List.set_cons_zero, List.set_cons_succ]
  refine wpAnyH_ready (rs := [3, 5]) (by kernel_rfl) (by simp) ?_
  refine AllReadyH.cons (o := _) (dropAt rfl) (fun K hK => ?_) (AllReadyH.cons (o := _) (dropAt rfl) (fun K hK => ?_) AllReadyH.nil)
  · go_simp
    refine hK.out _ _ ?_ (fun hHeld9 => ?_)
    · exact HSS.out _ HH7.out
    clear hK K hHeld
    have hHeld := hHeld9
    clear hHeld9
    try simp only [Act.put, List.setIfInBounds_toArray, List.set_cons_zero, List.set_cons_succ]
    refine wpAnyH_ready (rs := [5]) (by kernel_rfl) (by simp) ?_
    refine AllReadyH.cons (o := _) (dropAt rfl) (fun K hK => ?_) AllReadyH.nil
    go_simp
    refine hK.out _ _ ?_ (fun hHeld => ?_)
    · exact HSS.out _ HH7.out
    clear hK K
    try simp only [Act.put, List.setIfInBounds_toArray, List.set_cons_zero, List.set_cons_succ]
    first
      | (refine wpAnyH_take (i := 6) (oi := _) (v := undef) (dropAt rfl) (by kernel_rfl) (by kernel_rfl) (by kernel_rfl) (fun _ _ _ h => h) (Or.inr ⟨by rfl, rfl⟩) (by assumption) ?_)
      | (refine wpAnyH_take (i := 6) (oi := _) (v := ?_) (dropAt rfl) (by kernel_rfl) (by kernel_rfl) (by kernel_rfl) (fun _ _ _ h => h) (Or.inl ⟨by rfl, ?_⟩) (by assumption) ?_; rotate_left; (focus (intro w2 hSw; (try dsimp only at hSw); go_simp; try with_reducible rfl)))
      | fail
    try simp only [Act.put, List.setIfInBounds_toArray, List.set_cons_zero, List.set_cons_succ]
    first
      | (refine wpAnyH_take (i := 7) (oi := _) (v := undef) (dropAt rfl) (by kernel_rfl) (by kernel_rfl) (by kernel_rfl) (fun _ _ _ h => h) (Or.inr ⟨by rfl, rfl⟩) (by assumption) ?_)
      | (refine wpAnyH_take (i := 7) (oi := _) (v := ?_) (dropAt rfl) (by kernel_rfl) (by kernel_rfl) (by kernel_rfl) (fun _ _ _ h => h) (Or.inl ⟨by rfl, ?_⟩) (by assumption) ?_; rotate_left; (focus (intro w2 hSw; (try dsimp only at hSw); go_simp; try with_reducible rfl)))
      | fail
    try simp only [Act.put, List.setIfInBounds_toArray, List.set_cons_zero, List.set_cons_succ]
    first
      | (refine wpAnyH_take (i := 8) (oi := _) (v := undef) (dropAt rfl) (by kernel_rfl) (by kernel_rfl) (by kernel_rfl) (fun _ _ _ h => h) (Or.inr ⟨by rfl, rfl⟩) (by assumption) ?_)
      | (refine wpAnyH_take (i := 8) (oi := _) (v := ?_) (dropAt rfl) (by kernel_rfl) (by kernel_rfl) (by kernel_rfl) (fun _ _ _ h => h) (Or.inl ⟨by rfl, ?_⟩) (by assumption) ?_; rotate_left; (focus (intro w2 hSw; (try dsimp only at hSw); go_simp; try with_reducible rfl)))
      | fail
    try simp only [Act.put, List.setIfInBounds_toArray, List.set_cons_zero, List.set_cons_succ]
    first
      | (refine wpAnyH_take (i := 9) (oi := _) (v := undef) (dropAt rfl) (by kernel_rfl) (by kernel_rfl) (by kernel_rfl) (fun _ _ _ h => h) (Or.inr ⟨by rfl, rfl⟩) (by assumption) ?_)
      | (refine wpAnyH_take (i := 9) (oi := _) (v := ?_) (dropAt rfl) (by kernel_rfl) (by kernel_rfl) (by kernel_rfl) (fun _ _ _ h => h) (Or.inl ⟨by rfl, ?_⟩) (by assumption) ?_; rotate_left; (focus (intro w2 hSw; (try dsimp only at hSw); go_simp; try with_reducible rfl)))
      | fail
    try simp only [Act.put, List.setIfInBounds_toArray, List.set_cons_zero, List.set_cons_succ]
    first
      | (refine wpAnyH_take (i := 10) (oi := _) (v := undef) (dropAt rfl) (by kernel_rfl) (by kernel_rfl) (by kernel_rfl) (fun _ _ _ h => h) (Or.inr ⟨by rfl, rfl⟩) (by assumption) ?_)
      | (refine wpAnyH_take (i := 10) (oi := _) (v := ?_) (dropAt rfl) (by kernel_rfl) (by kernel_rfl) (by kernel_rfl) (fun _ _ _ h => h) (Or.inl ⟨by rfl, ?_⟩) (by assumption) ?_; rotate_left; (focus (intro w2 hSw; (try dsimp only at hSw); go_simp; try with_reducible rfl)))
      | fail
    try simp only [Act.put, List.setIfInBounds_toArray, List.set_cons_zero, List.set_cons_succ]
    first
      | (refine wpAnyH_take (i := 11) (oi := _) (v := undef) (dropAt rfl) (by kernel_rfl) (by kernel_rfl) (by kernel_rfl) (fun _ _ _ h => h) (Or.inr ⟨by rfl, rfl⟩) (by assumption) ?_)
      | (refine wpAnyH_take (i := 11) (oi := _) (v := ?_) (dropAt rfl) (by kernel_rfl) (by kernel_rfl) (by kernel_rfl) (fun _ _ _ h => h) (Or.inl ⟨by rfl, ?_⟩) (by assumption) ?_; rotate_left; (focus (intro w2 hSw; (try dsimp only at hSw); go_simp; try with_reducible rfl)))
      | fail
    try simp only [Act.put, List.setIfInBounds_toArray, List.set_cons_zero, List.set_cons_succ]
    first
      | (refine wpAnyH_take (i := 12) (oi := _) (v := undef) (dropAt rfl) (by kernel_rfl) (by kernel_rfl) (by kernel_rfl) (fun _ _ _ h => h) (Or.inr ⟨by rfl, rfl⟩) (by assumption) ?_)
      | (refine wpAnyH_take (i := 12) (oi := _) (v := ?_) (dropAt rfl) (by kernel_rfl) (by kernel_rfl) (by kernel_rfl) (fun _ _ _ h => h) (Or.inl ⟨by rfl, ?_⟩) (by assumption) ?_; rotate_left; (focus (intro w2 hSw; (try dsimp only at hSw); go_simp; try with_reducible rfl)))
      | fail
    try simp only [Act.put, List.setIfInBounds_toArray, List.set_cons_zero, List.set_cons_succ]
    first
      | (refine wpAnyH_take (i := 13) (oi := _) (v := undef) (dropAt rfl) (by kernel_rfl) (by kernel_rfl) (by kernel_rfl) (fun _ _ _ h => h) (Or.inr ⟨by rfl, rfl⟩) (by assumption) ?_)
      | (refine wpAnyH_take (i := 13) (oi := _) (v := ?_) (dropAt rfl) (by kernel_rfl) (by kernel_rfl) (by kernel_rfl) (fun _ _ _ h => h) (Or.inl ⟨by rfl, ?_⟩) (by assumption) ?_; rotate_left; (focus (intro w2 hSw; (try dsimp only at hSw); go_simp; try with_reducible rfl)))
      | fail
    try simp only [Act.put, List.setIfInBounds_toArray, List.set_cons_zero, List.set_cons_succ]
    first
      | (refine wpAnyH_take (i := 14) (oi := _) (v := undef) (dropAt rfl) (by kernel_rfl) (by kernel_rfl) (by kernel_rfl) (fun _ _ _ h => h) (Or.inr ⟨by rfl, rfl⟩) (by assumption) ?_)
      | (refine wpAnyH_take (i := 14) (oi := _) (v := ?_) (dropAt rfl) (by kernel_rfl) (by kernel_rfl) (by kernel_rfl) (fun _ _ _ h => h) (Or.inl ⟨by rfl, ?_⟩) (by assumption) ?_; rotate_left; (focus (intro w2 hSw; (try dsimp only at hSw); go_simp; try with_reducible rfl)))
      | fail
    try simp only [Act.put, List.setIfInBounds_toArray, List.set_cons_zero, List.set_cons_succ]
    first
      | (refine wpAnyH_take (i := 16) (oi := _) (v := undef) (dropAt rfl) (by kernel_rfl) (by kernel_rfl) (by kernel_rfl) (fun _ _ _ h => h) (Or.inr ⟨by rfl, rfl⟩) (by assumption) ?_)
      | (refine wpAnyH_take (i := 16) (oi := _) (v := ?_) (dropAt rfl) (by kernel_rfl) (by kernel_rfl) (by kernel_rfl) (fun _ _ _ h => h) (Or.inl ⟨by rfl, ?_⟩) (by assumption) ?_; rotate_left; (focus (intro w2 hSw; (try dsimp only at hSw); go_simp; try with_reducible rfl)))
      | fail
    try simp only [Act.put, List.setIfInBounds_toArray, List.set_cons_zero, List.set_cons_succ]
    refine wpAnyH_ready (rs := [15]) (by kernel_rfl) (by simp) ?_
    refine AllReadyH.cons (o := _) (dropAt rfl) (fun K hK => ?_) AllReadyH.nil
    go_simp
    (go_at_call 13; refine (show Calls _ _ #[.agg #[.int .i64 kind, .int .i64 fs, .int .i64 fn, .int .i64 ts, .int .i64 tn, .int .i64 id, .int .i64 mn, .int .i64 fo, .int .i64 code, .string key, .slice Ar nr cr, .slice Av nv cv, .slice Ap np cp, .slice Ah nh ch, .slice Ao no co]] _ _ from rightMsg_any ⟨⟨kind, fs, fn, ts, tn, id, mn, fo, code, key, recs, vec, path, hashes, route⟩, Ar, nr, cr, Av, nv, cv, Ap, np, cp, Ah, nh, ch, Ao, no, co⟩ _ (HR2.out.below HH7.out)).mono ?_; rintro e w8 ⟨rfl, b8⟩)
    refine hK.out _ _ ?_ (fun hHeld => ?_)
    · exact HSS.out _ (HH7.out.trans (b8.mono HH7.out.size))
    clear hK K
    have HH8 := Lib.hid (HH7.out.trans (b8.mono HH7.out.size))
    clear b8
    refine wpAnyH_ready (rs := [17]) (by kernel_rfl) (by simp) ?_
    refine AllReadyH.cons (o := _) (dropAt rfl) (fun K hK => ?_) AllReadyH.nil
    go_simp
    (go_at_call 14; refine (show Calls _ _ #[.agg #[.int .i64 kind, .int .i64 fs, .int .i64 fn, .int .i64 ts, .int .i64 tn, .int .i64 id, .int .i64 mn, .int .i64 fo, .int .i64 code, .string key, .slice Ar nr cr, .slice Av nv cv, .slice Ap np cp, .slice Ah nh ch, .slice Ao no co]] _ _ from refRightMsg_any ⟨⟨kind, fs, fn, ts, tn, id, mn, fo, code, key, recs, vec, path, hashes, route⟩, Ar, nr, cr, Av, nv, cv, Ap, np, cp, Ah, nh, ch, Ao, no, co⟩ _ (HR2.out.below HH8.out)).mono ?_; rintro e w9 ⟨rfl, b9⟩)
    refine hK.out _ _ ?_ (fun hHeld => ?_)
    · exact HSS.out _ (HH8.out.trans (b9.mono HH8.out.size))
    clear hK K
    have HB9 := Lib.hid (HB2.out.trans ((HH8.out.trans (b9.mono HH8.out.size)).mono HB2.out.size))
    clear b9
    first
      | (refine wpAnyH_take (i := 18) (oi := _) (v := undef) (dropAt rfl) (by kernel_rfl) (by kernel_rfl) (by kernel_rfl) (fun _ _ _ h => h) (Or.inr ⟨by rfl, rfl⟩) (by assumption) ?_)
      | (refine wpAnyH_take (i := 18) (oi := _) (v := ?_) (dropAt rfl) (by kernel_rfl) (by kernel_rfl) (by kernel_rfl) (fun _ _ _ h => h) (Or.inl ⟨by rfl, ?_⟩) (by assumption) ?_; rotate_left; (focus (intro w2 hSw; (try dsimp only at hSw); go_simp; try with_reducible rfl)))
      | fail
    try simp only [Act.put, List.setIfInBounds_toArray, List.set_cons_zero, List.set_cons_succ]
    first
      | (refine wpAnyH_take (i := 19) (oi := _) (v := undef) (dropAt rfl) (by kernel_rfl) (by kernel_rfl) (by kernel_rfl) (fun _ _ _ h => h) (Or.inr ⟨by rfl, rfl⟩) (by assumption) ?_)
      | (refine wpAnyH_take (i := 19) (oi := _) (v := ?_) (dropAt rfl) (by kernel_rfl) (by kernel_rfl) (by kernel_rfl) (fun _ _ _ h => h) (Or.inl ⟨by rfl, ?_⟩) (by assumption) ?_; rotate_left; (focus (intro w2 hSw; (try dsimp only at hSw); go_simp; try with_reducible rfl)))
      | fail
    try simp only [Act.put, List.setIfInBounds_toArray, List.set_cons_zero, List.set_cons_succ]
    first
      | (refine wpAnyH_take (i := 20) (oi := _) (v := undef) (dropAt rfl) (by kernel_rfl) (by kernel_rfl) (by kernel_rfl) (fun _ _ _ h => h) (Or.inr ⟨by rfl, rfl⟩) (by assumption) ?_)
      | (refine wpAnyH_take (i := 20) (oi := _) (v := ?_) (dropAt rfl) (by kernel_rfl) (by kernel_rfl) (by kernel_rfl) (fun _ _ _ h => h) (Or.inl ⟨by rfl, ?_⟩) (by assumption) ?_; rotate_left; (focus (intro w2 hSw; (try dsimp only at hSw); go_simp; try with_reducible rfl)))
      | fail
    try simp only [Act.put, List.setIfInBounds_toArray, List.set_cons_zero, List.set_cons_succ]
    refine wpAnyH_done (by kernel_rfl) ?_ _
    refine NoPanic.normal ?_
    clear hHeld
    go_wp2
    go_ret
    exact ⟨rfl, HB9.out⟩
  · go_simp
    refine hK.out _ _ ?_ (fun hHeld9 => ?_)
    · exact HSS.out _ HH7.out
    clear hK K hHeld
    have hHeld := hHeld9
    clear hHeld9
    try simp only [Act.put, List.setIfInBounds_toArray, List.set_cons_zero, List.set_cons_succ]
    refine wpAnyH_ready (rs := [3]) (by kernel_rfl) (by simp) ?_
    refine AllReadyH.cons (o := _) (dropAt rfl) (fun K hK => ?_) AllReadyH.nil
    go_simp
    refine hK.out _ _ ?_ (fun hHeld => ?_)
    · exact HSS.out _ HH7.out
    clear hK K
    try simp only [Act.put, List.setIfInBounds_toArray, List.set_cons_zero, List.set_cons_succ]
    first
      | (refine wpAnyH_take (i := 6) (oi := _) (v := undef) (dropAt rfl) (by kernel_rfl) (by kernel_rfl) (by kernel_rfl) (fun _ _ _ h => h) (Or.inr ⟨by rfl, rfl⟩) (by assumption) ?_)
      | (refine wpAnyH_take (i := 6) (oi := _) (v := ?_) (dropAt rfl) (by kernel_rfl) (by kernel_rfl) (by kernel_rfl) (fun _ _ _ h => h) (Or.inl ⟨by rfl, ?_⟩) (by assumption) ?_; rotate_left; (focus (intro w2 hSw; (try dsimp only at hSw); go_simp; try with_reducible rfl)))
      | fail
    try simp only [Act.put, List.setIfInBounds_toArray, List.set_cons_zero, List.set_cons_succ]
    first
      | (refine wpAnyH_take (i := 7) (oi := _) (v := undef) (dropAt rfl) (by kernel_rfl) (by kernel_rfl) (by kernel_rfl) (fun _ _ _ h => h) (Or.inr ⟨by rfl, rfl⟩) (by assumption) ?_)
      | (refine wpAnyH_take (i := 7) (oi := _) (v := ?_) (dropAt rfl) (by kernel_rfl) (by kernel_rfl) (by kernel_rfl) (fun _ _ _ h => h) (Or.inl ⟨by rfl, ?_⟩) (by assumption) ?_; rotate_left; (focus (intro w2 hSw; (try dsimp only at hSw); go_simp; try with_reducible rfl)))
      | fail
    try simp only [Act.put, List.setIfInBounds_toArray, List.set_cons_zero, List.set_cons_succ]
    first
      | (refine wpAnyH_take (i := 8) (oi := _) (v := undef) (dropAt rfl) (by kernel_rfl) (by kernel_rfl) (by kernel_rfl) (fun _ _ _ h => h) (Or.inr ⟨by rfl, rfl⟩) (by assumption) ?_)
      | (refine wpAnyH_take (i := 8) (oi := _) (v := ?_) (dropAt rfl) (by kernel_rfl) (by kernel_rfl) (by kernel_rfl) (fun _ _ _ h => h) (Or.inl ⟨by rfl, ?_⟩) (by assumption) ?_; rotate_left; (focus (intro w2 hSw; (try dsimp only at hSw); go_simp; try with_reducible rfl)))
      | fail
    try simp only [Act.put, List.setIfInBounds_toArray, List.set_cons_zero, List.set_cons_succ]
    first
      | (refine wpAnyH_take (i := 9) (oi := _) (v := undef) (dropAt rfl) (by kernel_rfl) (by kernel_rfl) (by kernel_rfl) (fun _ _ _ h => h) (Or.inr ⟨by rfl, rfl⟩) (by assumption) ?_)
      | (refine wpAnyH_take (i := 9) (oi := _) (v := ?_) (dropAt rfl) (by kernel_rfl) (by kernel_rfl) (by kernel_rfl) (fun _ _ _ h => h) (Or.inl ⟨by rfl, ?_⟩) (by assumption) ?_; rotate_left; (focus (intro w2 hSw; (try dsimp only at hSw); go_simp; try with_reducible rfl)))
      | fail
    try simp only [Act.put, List.setIfInBounds_toArray, List.set_cons_zero, List.set_cons_succ]
    first
      | (refine wpAnyH_take (i := 10) (oi := _) (v := undef) (dropAt rfl) (by kernel_rfl) (by kernel_rfl) (by kernel_rfl) (fun _ _ _ h => h) (Or.inr ⟨by rfl, rfl⟩) (by assumption) ?_)
      | (refine wpAnyH_take (i := 10) (oi := _) (v := ?_) (dropAt rfl) (by kernel_rfl) (by kernel_rfl) (by kernel_rfl) (fun _ _ _ h => h) (Or.inl ⟨by rfl, ?_⟩) (by assumption) ?_; rotate_left; (focus (intro w2 hSw; (try dsimp only at hSw); go_simp; try with_reducible rfl)))
      | fail
    try simp only [Act.put, List.setIfInBounds_toArray, List.set_cons_zero, List.set_cons_succ]
    first
      | (refine wpAnyH_take (i := 11) (oi := _) (v := undef) (dropAt rfl) (by kernel_rfl) (by kernel_rfl) (by kernel_rfl) (fun _ _ _ h => h) (Or.inr ⟨by rfl, rfl⟩) (by assumption) ?_)
      | (refine wpAnyH_take (i := 11) (oi := _) (v := ?_) (dropAt rfl) (by kernel_rfl) (by kernel_rfl) (by kernel_rfl) (fun _ _ _ h => h) (Or.inl ⟨by rfl, ?_⟩) (by assumption) ?_; rotate_left; (focus (intro w2 hSw; (try dsimp only at hSw); go_simp; try with_reducible rfl)))
      | fail
    try simp only [Act.put, List.setIfInBounds_toArray, List.set_cons_zero, List.set_cons_succ]
    first
      | (refine wpAnyH_take (i := 12) (oi := _) (v := undef) (dropAt rfl) (by kernel_rfl) (by kernel_rfl) (by kernel_rfl) (fun _ _ _ h => h) (Or.inr ⟨by rfl, rfl⟩) (by assumption) ?_)
      | (refine wpAnyH_take (i := 12) (oi := _) (v := ?_) (dropAt rfl) (by kernel_rfl) (by kernel_rfl) (by kernel_rfl) (fun _ _ _ h => h) (Or.inl ⟨by rfl, ?_⟩) (by assumption) ?_; rotate_left; (focus (intro w2 hSw; (try dsimp only at hSw); go_simp; try with_reducible rfl)))
      | fail
    try simp only [Act.put, List.setIfInBounds_toArray, List.set_cons_zero, List.set_cons_succ]
    first
      | (refine wpAnyH_take (i := 13) (oi := _) (v := undef) (dropAt rfl) (by kernel_rfl) (by kernel_rfl) (by kernel_rfl) (fun _ _ _ h => h) (Or.inr ⟨by rfl, rfl⟩) (by assumption) ?_)
      | (refine wpAnyH_take (i := 13) (oi := _) (v := ?_) (dropAt rfl) (by kernel_rfl) (by kernel_rfl) (by kernel_rfl) (fun _ _ _ h => h) (Or.inl ⟨by rfl, ?_⟩) (by assumption) ?_; rotate_left; (focus (intro w2 hSw; (try dsimp only at hSw); go_simp; try with_reducible rfl)))
      | fail
    try simp only [Act.put, List.setIfInBounds_toArray, List.set_cons_zero, List.set_cons_succ]
    first
      | (refine wpAnyH_take (i := 14) (oi := _) (v := undef) (dropAt rfl) (by kernel_rfl) (by kernel_rfl) (by kernel_rfl) (fun _ _ _ h => h) (Or.inr ⟨by rfl, rfl⟩) (by assumption) ?_)
      | (refine wpAnyH_take (i := 14) (oi := _) (v := ?_) (dropAt rfl) (by kernel_rfl) (by kernel_rfl) (by kernel_rfl) (fun _ _ _ h => h) (Or.inl ⟨by rfl, ?_⟩) (by assumption) ?_; rotate_left; (focus (intro w2 hSw; (try dsimp only at hSw); go_simp; try with_reducible rfl)))
      | fail
    try simp only [Act.put, List.setIfInBounds_toArray, List.set_cons_zero, List.set_cons_succ]
    first
      | (refine wpAnyH_take (i := 16) (oi := _) (v := undef) (dropAt rfl) (by kernel_rfl) (by kernel_rfl) (by kernel_rfl) (fun _ _ _ h => h) (Or.inr ⟨by rfl, rfl⟩) (by assumption) ?_)
      | (refine wpAnyH_take (i := 16) (oi := _) (v := ?_) (dropAt rfl) (by kernel_rfl) (by kernel_rfl) (by kernel_rfl) (fun _ _ _ h => h) (Or.inl ⟨by rfl, ?_⟩) (by assumption) ?_; rotate_left; (focus (intro w2 hSw; (try dsimp only at hSw); go_simp; try with_reducible rfl)))
      | fail
    try simp only [Act.put, List.setIfInBounds_toArray, List.set_cons_zero, List.set_cons_succ]
    refine wpAnyH_ready (rs := [15]) (by kernel_rfl) (by simp) ?_
    refine AllReadyH.cons (o := _) (dropAt rfl) (fun K hK => ?_) AllReadyH.nil
    go_simp
    (go_at_call 13; refine (show Calls _ _ #[.agg #[.int .i64 kind, .int .i64 fs, .int .i64 fn, .int .i64 ts, .int .i64 tn, .int .i64 id, .int .i64 mn, .int .i64 fo, .int .i64 code, .string key, .slice Ar nr cr, .slice Av nv cv, .slice Ap np cp, .slice Ah nh ch, .slice Ao no co]] _ _ from rightMsg_any ⟨⟨kind, fs, fn, ts, tn, id, mn, fo, code, key, recs, vec, path, hashes, route⟩, Ar, nr, cr, Av, nv, cv, Ap, np, cp, Ah, nh, ch, Ao, no, co⟩ _ (HR2.out.below HH7.out)).mono ?_; rintro e w8 ⟨rfl, b8⟩)
    refine hK.out _ _ ?_ (fun hHeld => ?_)
    · exact HSS.out _ (HH7.out.trans (b8.mono HH7.out.size))
    clear hK K
    have HH8 := Lib.hid (HH7.out.trans (b8.mono HH7.out.size))
    clear b8
    refine wpAnyH_ready (rs := [17]) (by kernel_rfl) (by simp) ?_
    refine AllReadyH.cons (o := _) (dropAt rfl) (fun K hK => ?_) AllReadyH.nil
    go_simp
    (go_at_call 14; refine (show Calls _ _ #[.agg #[.int .i64 kind, .int .i64 fs, .int .i64 fn, .int .i64 ts, .int .i64 tn, .int .i64 id, .int .i64 mn, .int .i64 fo, .int .i64 code, .string key, .slice Ar nr cr, .slice Av nv cv, .slice Ap np cp, .slice Ah nh ch, .slice Ao no co]] _ _ from refRightMsg_any ⟨⟨kind, fs, fn, ts, tn, id, mn, fo, code, key, recs, vec, path, hashes, route⟩, Ar, nr, cr, Av, nv, cv, Ap, np, cp, Ah, nh, ch, Ao, no, co⟩ _ (HR2.out.below HH8.out)).mono ?_; rintro e w9 ⟨rfl, b9⟩)
    refine hK.out _ _ ?_ (fun hHeld => ?_)
    · exact HSS.out _ (HH8.out.trans (b9.mono HH8.out.size))
    clear hK K
    have HB9 := Lib.hid (HB2.out.trans ((HH8.out.trans (b9.mono HH8.out.size)).mono HB2.out.size))
    clear b9
    first
      | (refine wpAnyH_take (i := 18) (oi := _) (v := undef) (dropAt rfl) (by kernel_rfl) (by kernel_rfl) (by kernel_rfl) (fun _ _ _ h => h) (Or.inr ⟨by rfl, rfl⟩) (by assumption) ?_)
      | (refine wpAnyH_take (i := 18) (oi := _) (v := ?_) (dropAt rfl) (by kernel_rfl) (by kernel_rfl) (by kernel_rfl) (fun _ _ _ h => h) (Or.inl ⟨by rfl, ?_⟩) (by assumption) ?_; rotate_left; (focus (intro w2 hSw; (try dsimp only at hSw); go_simp; try with_reducible rfl)))
      | fail
    try simp only [Act.put, List.setIfInBounds_toArray, List.set_cons_zero, List.set_cons_succ]
    first
      | (refine wpAnyH_take (i := 19) (oi := _) (v := undef) (dropAt rfl) (by kernel_rfl) (by kernel_rfl) (by kernel_rfl) (fun _ _ _ h => h) (Or.inr ⟨by rfl, rfl⟩) (by assumption) ?_)
      | (refine wpAnyH_take (i := 19) (oi := _) (v := ?_) (dropAt rfl) (by kernel_rfl) (by kernel_rfl) (by kernel_rfl) (fun _ _ _ h => h) (Or.inl ⟨by rfl, ?_⟩) (by assumption) ?_; rotate_left; (focus (intro w2 hSw; (try dsimp only at hSw); go_simp; try with_reducible rfl)))
      | fail
    try simp only [Act.put, List.setIfInBounds_toArray, List.set_cons_zero, List.set_cons_succ]
    first
      | (refine wpAnyH_take (i := 20) (oi := _) (v := undef) (dropAt rfl) (by kernel_rfl) (by kernel_rfl) (by kernel_rfl) (fun _ _ _ h => h) (Or.inr ⟨by rfl, rfl⟩) (by assumption) ?_)
      | (refine wpAnyH_take (i := 20) (oi := _) (v := ?_) (dropAt rfl) (by kernel_rfl) (by kernel_rfl) (by kernel_rfl) (fun _ _ _ h => h) (Or.inl ⟨by rfl, ?_⟩) (by assumption) ?_; rotate_left; (focus (intro w2 hSw; (try dsimp only at hSw); go_simp; try with_reducible rfl)))
      | fail
    try simp only [Act.put, List.setIfInBounds_toArray, List.set_cons_zero, List.set_cons_succ]
    refine wpAnyH_done (by kernel_rfl) ?_ _
    refine NoPanic.normal ?_
    clear hHeld
    go_wp2
    go_ret
    exact ⟨rfl, HB9.out⟩
theorem codeWrites_walk (cs : List Value) (x : msgSh.T) (W : World) (s0 : Rd W msgSh cs x) (u0 : shB msgSh x ≤ 1048576) :
    Calls Try.prog 3 #[.agg cs.toArray] W (BoolE W true) := by
  obtain ⟨y, hcs, hr, hn⟩ := msg_open s0
  rw [hcs]
  exact codeWrites_in y W hr (by omega)
end Go.Proofs.Ytgnedaihchmoaaa
