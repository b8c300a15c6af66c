/-
  firth/code.PutRec, PutMsg.
-/
import Derived.Test.YtgnedaihchmoaaaMG
import Derived.Test.YtgnedaihchmoaaaCodeRightMsg
import Derived.Test.YtgnedaihchmoaaaFramePut
namespace Go.Proofs.Ytgnedaihchmoaaa
open Go.RowKit
set_option linter.unusedVariables false

/-- What PutRec, PutMsg answer. -/
noncomputable def putRecE (r : Rc) : List UInt8 × Int := if rightR r = true then (recB r, 0) else ([], 1)
noncomputable def putMsgE (m : Mg) : List UInt8 × Int := if rightM m = true then (if (msgB m).length ≤ 1048576 then (putF (msgB m), 0) else ([], 3)) else ([], 1)
set_option maxHeartbeats 1000000 in
theorem putRec_any (w : World) (r : Rc) (A : Option Addr) (n c : Nat) (hv : RRow w r A n c) :
    Calls Try.prog 24 #[.agg #[.string r.key, .slice A n c]] w (NewBytesE w (putRecE r).1 (putRecE r).2) := by
  have bA : Below w.heap.size w (w.alloc (.cells #[.string r.key, .slice A n c] 48)) := (Below.refl _ _).alloc (Nat.le_refl _) _
  have hb := heap_alloc_new w (.cells #[.string r.key, .slice A n c] 48)
  have c1 := rightRec_any r A n c _ (hv.below bA)
  have g0 := row_cell (j := 0) hb rfl
  have g1 := row_cell (j := 1) hb rfl
  have HV := Lib.hid hv.sl
  have HX := Lib.hid hb
  have HA := Lib.hid bA
  unfold putRecE
  clear hv hb bA
  cases hr : rightR r
  · rw [hr] at c1
    have C1 := Lib.hid c1
    clear c1 hr
    obtain ⟨key, vers⟩ := r
    simp only at g0 g1 C1 ⊢
    go_enter Try.func24, Try.ntmps24
    go_wp2_with fail
    refine C1.out.mono ?_
    rintro e w1 ⟨rfl, b1⟩
    have HB := Lib.hid (HA.out.trans (b1.mono HA.out.size))
    clear b1 C1
    go_wp2
    go_ret2
    exact NewBytesE.nil HB.out
  · rw [hr] at c1
    have C1 := Lib.hid c1
    have HR := Lib.hid hr
    clear c1 hr
    obtain ⟨key, vers⟩ := r
    simp only at g0 g1 C1 HV ⊢
    go_enter Try.func24, Try.ntmps24
    go_wp2_with fail
    refine C1.out.mono ?_
    rintro e w1 ⟨rfl, b1⟩
    have HB := Lib.hid (HA.out.trans (b1.mono HA.out.size))
    have X1 := (b1.block _ (lt_of_block HX.out)).trans HX.out
    have hlx := lt_of_block X1
    have X2 := (Below.heap_alloc w1 (.cells #[.slice none 0 0] 76) w.heap.size hlx).trans X1
    have C2 := Lib.hid (wrec_any w1 _ w1.heap.size [] none 0 ⟨key, vers⟩ A n c (WSt.start w1 rfl) (HV.out.below HB.out) HR.out (by simp))
    have p0 := row_cell (j := 0) X2 rfl
    have p1 := row_cell (j := 1) X2 rfl
    clear b1 C1 g0 g1 X1 X2
    go_wp2_with fail
    refine C2.out.mono ?_
    rintro e w2 ⟨rfl, ⟨A2, c2, h2⟩, -⟩
    have HK := Lib.hid (WSt.lower HB.out h2)
    have q0 := cell_of_one h2.box
    clear h2 C2
    go_wp2
    go_ret2
    exact NewBytesE.of HK.out
theorem putMsgE_no {m : Mg} (h : rightM m = false) : putMsgE m = ([], 1) := by unfold putMsgE; rw [h]; rfl
theorem putMsgE_long {m : Mg} (h : rightM m = true) (h2 : ¬ (msgB m).length ≤ 1048576) : putMsgE m = ([], 3) := by unfold putMsgE; rw [if_pos h, if_neg h2]
theorem putMsgE_ok {m : Mg} (h : rightM m = true) (h2 : (msgB m).length ≤ 1048576) : putMsgE m = (putF (msgB m), 0) := by unfold putMsgE; rw [if_pos h, if_pos h2]
theorem msg_cells {w : World} {b : Nat} {kind fs fn ts tn id n fo code : Int} {key : ByteArray} {s1 s2 s3 s4 s5 : Value} {t : TypeId} (h : w.heap[b]? = some (.cells #[.int .i64 kind, .int .i64 fs, .int .i64 fn, .int .i64 ts, .int .i64 tn, .int .i64 id, .int .i64 n, .int .i64 fo, .int .i64 code, .string key, s1, s2, s3, s4, s5] t (0, 0))) :
    (w.cell? ⟨b, 0, none⟩ = some (.int .i64 kind) ∧ w.cell? ⟨b, 1, none⟩ = some (.int .i64 fs) ∧ w.cell? ⟨b, 2, none⟩ = some (.int .i64 fn) ∧ w.cell? ⟨b, 3, none⟩ = some (.int .i64 ts) ∧ w.cell? ⟨b, 4, none⟩ = some (.int .i64 tn)) ∧ (w.cell? ⟨b, 5, none⟩ = some (.int .i64 id) ∧ w.cell? ⟨b, 6, none⟩ = some (.int .i64 n) ∧ w.cell? ⟨b, 7, none⟩ = some (.int .i64 fo) ∧ w.cell? ⟨b, 8, none⟩ = some (.int .i64 code) ∧ w.cell? ⟨b, 9, none⟩ = some (.string key)) ∧
      w.cell? ⟨b, 10, none⟩ = some s1 ∧ w.cell? ⟨b, 11, none⟩ = some s2 ∧ w.cell? ⟨b, 12, none⟩ = some s3 ∧ w.cell? ⟨b, 13, none⟩ = some s4 ∧ w.cell? ⟨b, 14, none⟩ = some s5 :=
  ⟨⟨row_cell h rfl, row_cell h rfl, row_cell h rfl, row_cell h rfl, row_cell h rfl⟩, ⟨row_cell h rfl, row_cell h rfl, row_cell h rfl, row_cell h rfl, row_cell h rfl⟩, row_cell h rfl, row_cell h rfl, row_cell h rfl, row_cell h rfl, row_cell h rfl⟩
/-! putmsg.py prints from here -/
theorem own_caps {w : World} {B : Nat} {e : TypeId} {sz n c : Nat} {A : Option Addr} {xs : List Value} (h : w.ownsRow B e sz (.slice A n c) n xs) : n ≤ c ∧ c ≤ maxLen := by
  obtain ⟨A', c', e0, h1, h2⟩ := own_slice h
  injection e0 with _ _ e3
  subst e3
  exact ⟨h1, h2⟩
theorem putMsg_len {kind fs fn ts tn id n fo code : Int} {key : ByteArray} {recs : List Rc} {vec path hashes route : List Int} (hr : RightM ⟨kind, fs, fn, ts, tn, id, n, fo, code, key, recs, vec, path, hashes, route⟩) (hnr : recs.length ≤ 1048576) :
    (putNum kind).length ≤ 9 ∧ (putNum fs ++ putNum fn).length ≤ 18 ∧ (putNum ts ++ putNum tn).length ≤ 18 ∧ (putNum id).length ≤ 9 ∧ (putNum n).length ≤ 9 ∧ (putNum fo).length ≤ 9 ∧ (putNum code).length ≤ 9 ∧ (txtB key).length ≤ 41 ∧
      (listB recB recs).length ≤ 15100000000000 ∧ (listB putNum vec).length ≤ 200 ∧ (listB putNum path).length ≤ 100 ∧ (listB hshB hashes).length ≤ 400 ∧ (listB putNum route).length ≤ 200 := by
  obtain ⟨g1, g2, g3, g4, g5, g6, g7, g8, g9, g10, g11, g12, g13⟩ := hr
  simp only at g8 g9 g10 g11 g12 g13
  have t1 := (putNum_len kind).2
  have t2 := (putNum_len fs).2
  have t3 := (putNum_len fn).2
  have t4 := (putNum_len ts).2
  have t5 := (putNum_len tn).2
  have t6 := (putNum_len id).2
  have t7 := (putNum_len n).2
  have t8 := (putNum_len fo).2
  have t9 := (putNum_len code).2
  have t10 := txtB_len key
  have t11 := listB_len recB 14336050 recs (fun y hy => recB_len (g9 y hy))
  have t12 := listB_len putNum 9 vec (fun y _ => (putNum_len y).2)
  have t13 := listB_len putNum 9 path (fun y _ => (putNum_len y).2)
  have t14 := listB_len hshB 18 hashes (fun y _ => (hshB_len y).2)
  have t15 := listB_len putNum 9 route (fun y _ => (putNum_len y).2)
  have b10 := g10.2
  have b11 := g11.2
  have b13 := g13.2
  rw [List.length_append, List.length_append]
  exact ⟨t1, by omega, by omega, t6, t7, t8, t9, by omega, by omega, by omega, by omega, by omega, by omega⟩
set_option maxHeartbeats 20000000 in
set_option maxRecDepth 100000 in
theorem putMsg_any (w : World) (x : Mx) (hv : MRow w x) (hnr : x.nr ≤ 1048576) :
    Calls Try.prog 10 #[.agg x.cells] w (NewBytesE w (putMsgE x.m).1 (putMsgE x.m).2) := by
  have hmf : ∀ (fn : Fn) (first cap : Array Value) (w : World), (Instr.makeFunc fn first cap).run Try.prog w = .ok (.func fn first cap) w := fun _ _ _ _ => rfl
  have bA : Below w.heap.size w (w.alloc (.cells x.cells 30)) := (Below.refl _ _).alloc (Nat.le_refl _) _
  have hb := heap_alloc_new w (.cells x.cells 30)
  have c1 := rightMsg_any x _ (hv.below bA)
  have HM := Lib.hid hv
  have HA := Lib.hid bA
  clear hv bA
  obtain ⟨⟨kind, fs, fn, ts, tn, id, n, fo, code, key, recs, vec, path, hashes, route⟩, Ar, nr, cr, Av, nv, cv, Ap, np, cp, Ah, nh, ch, Ao, no, co⟩ := x
  unfold Mx.cells at *
  simp only at hb c1 HA hnr ⊢
  obtain ⟨⟨p0, p1, p2, p3, p4⟩, ⟨p5, p6, p7, p8, p9⟩, p10, p11, p12, p13, p14⟩ := msg_cells hb
  have HX := Lib.hid hb
  clear hb
  cases hr : rightM ⟨kind, fs, fn, ts, tn, id, n, fo, code, key, recs, vec, path, hashes, route⟩
  · rw [hr] at c1
    have C1 := Lib.hid c1
    rw [putMsgE_no hr]
    clear c1 hr
    go_enter Try.func10, Try.ntmps10
    go_wp2_with fail
    refine C1.out.mono ?_
    rintro e w1 ⟨rfl, b1⟩
    have HB := Lib.hid (HA.out.trans (b1.mono HA.out.size))
    clear b1 C1
    go_wp2
    go_ret2
    exact NewBytesE.nil HB.out
  · rw [hr] at c1
    have C1 := Lib.hid c1
    have hR := rightM_true.1 hr
    have HR0 := Lib.hid hr
    have e9 := HM.out.recs.len
    simp only at e9
    have HT := Lib.hid (putMsg_len hR (by omega))
    obtain ⟨g1, g2, g3, g4, g5, g6, g7, g8, g9, g10, g11, g12, g13⟩ := hR
    have e10 := Sl.len1 HM.out.vec
    have e11 := Sl.len1 HM.out.path
    have e12 := Sl.len1 HM.out.hashes
    have e13 := Sl.len1 HM.out.route
    have w6 := HM.out.wid
    have w7 := HM.out.wn
    simp only at g1 g2 g3 g4 g5 g6 g7 g8 g9 g10 g11 g12 g13 e10 e11 e12 e13 w6 w7
    have b10 := g10.2
    have b11 := g11.2
    have b13 := g13.2
    have HG := Lib.hid (And.intro g9 trivial)
    have HN := Lib.hid (show nr ≤ 1048576 ∧ nv ≤ 1024 ∧ np ≤ 1024 ∧ nh ≤ 1024 ∧ no ≤ 1024 from ⟨hnr, by omega, by omega, by omega, by omega⟩)
    have HB9 := Lib.hid (show fs ≤ 9223372036854775807 ∧ fn ≤ 9223372036854775807 ∧ ts ≤ 9223372036854775807 ∧ tn ≤ 9223372036854775807 ∧ id ≤ 9223372036854775807 ∧ n ≤ 9223372036854775807 ∧ fo ≤ 9223372036854775807 ∧ code ≤ 9223372036854775807 ∧ key.size ≤ 1000 from ⟨by omega, by omega, by omega, by omega, w6, w7, by omega, by omega, by omega⟩)
    have hv1 : ∀ y ∈ vec, y ≤ 9223372036854775807 := fun y hy => by have := g10.1 y hy; omega
    have hv2 : ∀ y ∈ path, y ≤ 9223372036854775807 := fun y hy => by have := g11.1 y hy; omega
    have hv3 : ∀ y ∈ route, y ≤ 9223372036854775807 := fun y hy => by have := g13.1 y hy; omega
    have HV := Lib.hid (And.intro hv1 (And.intro hv2 hv3))
    have hk : kind ≤ 9223372036854775807 := by omega
    clear c1 hr g1 g2 g3 g4 g5 g6 g7 g8 g9 g10 g11 g12 g13 e9 e10 e11 e12 e13 w6 w7 b10 b11 b13 hv1 hv2 hv3 hnr
    go_enter Try.func10, Try.ntmps10
    go_wp2_with fail
    refine C1.out.mono ?_
    rintro e w1 ⟨rfl, b1⟩
    have HB := Lib.hid (HA.out.trans (b1.mono HA.out.size))
    clear p0 p1 p2 p3 p4 p5 p6 p7 p8 p9 p10 p11 p12 p13 p14
    have X1 := (b1.block _ (lt_of_block HX.out)).trans HX.out
    have hlx := lt_of_block X1
    have X2 := (Below.heap_alloc w1 (.cells #[.slice none 0 0] 76) w.heap.size hlx).trans X1
    have HM1 := Lib.hid (HM.out.below HB.out)
    have CN := Lib.hid (wint_any w1 _ w1.heap.size [] none 0 kind (WSt.start w1 rfl) hk (by simp))
    clear HX hk
    have p0 := row_cell (j := 0) X2 rfl
    have HX := Lib.hid X2
    have HQ0 := Lib.hid (show ([] : List UInt8) = [] from rfl)
    clear b1 C1 X1 X2 HM HA
    go_wp2_with fail
    refine CN.out.mono ?_
    rintro e w2 ⟨rfl, ⟨A2, c2, h2⟩, k2⟩
    obtain ⟨Q1, hQ⟩ : ∃ Q, [] ++ putNum kind = Q := ⟨_, rfl⟩
    rw [hQ] at h2
    have hq1 : Q1.length ≤ 9 := by have T := HT.out; have tl := T.1; clear T; rw [← hQ, List.length_append]; simp only [List.length_nil]; omega
    have HQ1 := Lib.hid (show Q1 = ([] ++ putNum kind) from by rw [← hQ])
    have HX' := Lib.hid (k2.2 _ _ _ _ HX.out (by decide) (by decide))
    clear HX CN k2 hQ HQ0 p0
    have HX := HX'
    clear HX'
    have p1 := row_cell (j := 1) HX.out rfl
    have p2 := row_cell (j := 2) HX.out rfl
    have hb := HB9.out
    have CN := Lib.hid (waddr_any w1 w2 w1.heap.size Q1 A2 c2 fs fn h2 hb.1 hb.2.1 (by omega))
    clear h2 hb
    go_wp2_with fail
    refine CN.out.mono ?_
    rintro e w2 ⟨rfl, ⟨A2, c2, h2⟩, k2⟩
    obtain ⟨Q2, hQ⟩ : ∃ Q, Q1 ++ (putNum fs ++ putNum fn) = Q := ⟨_, rfl⟩
    rw [List.append_assoc, hQ] at h2
    have hq2 : Q2.length ≤ 27 := by have T := HT.out; have tl := T.2.1; clear T; rw [← hQ, List.length_append]; omega
    have HQ2 := Lib.hid (show Q2 = (([] ++ putNum kind) ++ (putNum fs ++ putNum fn)) from by rw [← hQ, HQ1.out])
    have HX' := Lib.hid (k2.2 _ _ _ _ HX.out (by decide) (by decide))
    clear HX CN k2 hQ HQ1 hq1 p1 p2
    have HX := HX'
    clear HX'
    have p3 := row_cell (j := 3) HX.out rfl
    have p4 := row_cell (j := 4) HX.out rfl
    have hb := HB9.out
    have CN := Lib.hid (waddr_any w1 w2 w1.heap.size Q2 A2 c2 ts tn h2 hb.2.2.1 hb.2.2.2.1 (by omega))
    clear h2 hb
    go_wp2_with fail
    refine CN.out.mono ?_
    rintro e w2 ⟨rfl, ⟨A2, c2, h2⟩, k2⟩
    obtain ⟨Q3, hQ⟩ : ∃ Q, Q2 ++ (putNum ts ++ putNum tn) = Q := ⟨_, rfl⟩
    rw [List.append_assoc, hQ] at h2
    have hq3 : Q3.length ≤ 45 := by have T := HT.out; have tl := T.2.2.1; clear T; rw [← hQ, List.length_append]; omega
    have HQ3 := Lib.hid (show Q3 = ((([] ++ putNum kind) ++ (putNum fs ++ putNum fn)) ++ (putNum ts ++ putNum tn)) from by rw [← hQ, HQ2.out])
    have HX' := Lib.hid (k2.2 _ _ _ _ HX.out (by decide) (by decide))
    clear HX CN k2 hQ HQ2 hq2 p3 p4
    have HX := HX'
    clear HX'
    have p5 := row_cell (j := 5) HX.out rfl
    have hb := HB9.out
    have CN := Lib.hid (wnum_any w1 w2 w1.heap.size Q3 A2 c2 id h2 hb.2.2.2.2.1 (by omega))
    clear h2 hb
    go_wp2_with fail
    refine CN.out.mono ?_
    rintro e w2 ⟨rfl, ⟨A2, c2, h2⟩, k2⟩
    obtain ⟨Q4, hQ⟩ : ∃ Q, Q3 ++ putNum id = Q := ⟨_, rfl⟩
    rw [hQ] at h2
    have hq4 : Q4.length ≤ 54 := by have T := HT.out; have tl := T.2.2.2.1; clear T; rw [← hQ, List.length_append]; omega
    have HQ4 := Lib.hid (show Q4 = (((([] ++ putNum kind) ++ (putNum fs ++ putNum fn)) ++ (putNum ts ++ putNum tn)) ++ putNum id) from by rw [← hQ, HQ3.out])
    have HX' := Lib.hid (k2.2 _ _ _ _ HX.out (by decide) (by decide))
    clear HX CN k2 hQ HQ3 hq3 p5
    have HX := HX'
    clear HX'
    have p6 := row_cell (j := 6) HX.out rfl
    have hb := HB9.out
    have CN := Lib.hid (wnum_any w1 w2 w1.heap.size Q4 A2 c2 n h2 hb.2.2.2.2.2.1 (by omega))
    clear h2 hb
    go_wp2_with fail
    refine CN.out.mono ?_
    rintro e w2 ⟨rfl, ⟨A2, c2, h2⟩, k2⟩
    obtain ⟨Q5, hQ⟩ : ∃ Q, Q4 ++ putNum n = Q := ⟨_, rfl⟩
    rw [hQ] at h2
    have hq5 : Q5.length ≤ 63 := by have T := HT.out; have tl := T.2.2.2.2.1; clear T; rw [← hQ, List.length_append]; omega
    have HQ5 := Lib.hid (show Q5 = ((((([] ++ putNum kind) ++ (putNum fs ++ putNum fn)) ++ (putNum ts ++ putNum tn)) ++ putNum id) ++ putNum n) from by rw [← hQ, HQ4.out])
    have HX' := Lib.hid (k2.2 _ _ _ _ HX.out (by decide) (by decide))
    clear HX CN k2 hQ HQ4 hq4 p6
    have HX := HX'
    clear HX'
    have p7 := row_cell (j := 7) HX.out rfl
    have hb := HB9.out
    have CN := Lib.hid (wint_any w1 w2 w1.heap.size Q5 A2 c2 fo h2 hb.2.2.2.2.2.2.1 (by omega))
    clear h2 hb
    go_wp2_with fail
    refine CN.out.mono ?_
    rintro e w2 ⟨rfl, ⟨A2, c2, h2⟩, k2⟩
    obtain ⟨Q6, hQ⟩ : ∃ Q, Q5 ++ putNum fo = Q := ⟨_, rfl⟩
    rw [hQ] at h2
    have hq6 : Q6.length ≤ 72 := by have T := HT.out; have tl := T.2.2.2.2.2.1; clear T; rw [← hQ, List.length_append]; omega
    have HQ6 := Lib.hid (show Q6 = (((((([] ++ putNum kind) ++ (putNum fs ++ putNum fn)) ++ (putNum ts ++ putNum tn)) ++ putNum id) ++ putNum n) ++ putNum fo) from by rw [← hQ, HQ5.out])
    have HX' := Lib.hid (k2.2 _ _ _ _ HX.out (by decide) (by decide))
    clear HX CN k2 hQ HQ5 hq5 p7
    have HX := HX'
    clear HX'
    have p8 := row_cell (j := 8) HX.out rfl
    have hb := HB9.out
    have CN := Lib.hid (wint_any w1 w2 w1.heap.size Q6 A2 c2 code h2 hb.2.2.2.2.2.2.2.1 (by omega))
    clear h2 hb
    go_wp2_with fail
    refine CN.out.mono ?_
    rintro e w2 ⟨rfl, ⟨A2, c2, h2⟩, k2⟩
    obtain ⟨Q7, hQ⟩ : ∃ Q, Q6 ++ putNum code = Q := ⟨_, rfl⟩
    rw [hQ] at h2
    have hq7 : Q7.length ≤ 81 := by have T := HT.out; have tl := T.2.2.2.2.2.2.1; clear T; rw [← hQ, List.length_append]; omega
    have HQ7 := Lib.hid (show Q7 = ((((((([] ++ putNum kind) ++ (putNum fs ++ putNum fn)) ++ (putNum ts ++ putNum tn)) ++ putNum id) ++ putNum n) ++ putNum fo) ++ putNum code) from by rw [← hQ, HQ6.out])
    have HX' := Lib.hid (k2.2 _ _ _ _ HX.out (by decide) (by decide))
    clear HX CN k2 hQ HQ6 hq6 p8
    have HX := HX'
    clear HX'
    have p9 := row_cell (j := 9) HX.out rfl
    have hb := HB9.out
    have CN := Lib.hid (wtext_any w1 w2 w1.heap.size Q7 A2 c2 key h2 hb.2.2.2.2.2.2.2.2 (by omega))
    clear h2 hb
    go_wp2_with fail
    refine CN.out.mono ?_
    rintro e w2 ⟨rfl, ⟨A2, c2, h2⟩, k2⟩
    obtain ⟨Q8, hQ⟩ : ∃ Q, Q7 ++ txtB key = Q := ⟨_, rfl⟩
    rw [hQ] at h2
    have hq8 : Q8.length ≤ 130 := by have T := HT.out; have tl := T.2.2.2.2.2.2.2.1; clear T; rw [← hQ, List.length_append]; omega
    have HQ8 := Lib.hid (show Q8 = (((((((([] ++ putNum kind) ++ (putNum fs ++ putNum fn)) ++ (putNum ts ++ putNum tn)) ++ putNum id) ++ putNum n) ++ putNum fo) ++ putNum code) ++ txtB key) from by rw [← hQ, HQ7.out])
    have HX' := Lib.hid (k2.2 _ _ _ _ HX.out (by decide) (by decide))
    clear HX CN k2 hQ HQ7 hq7 p9
    have HX := HX'
    clear HX'
    have p10 := row_cell (j := 10) HX.out rfl
    have hb := HB9.out
    have CN := Lib.hid (wput_recs w1 w2 w1.heap.size Q8 A2 c2 Ar nr cr recs h2 HM1.out.recs HG.out.1 HN.out.1 (by omega))
    clear h2 hb
    go_wp2_with fail
    refine CN.out.mono ?_
    rintro e w2 ⟨rfl, ⟨A2, c2, h2⟩, k2⟩
    obtain ⟨Q9, hQ⟩ : ∃ Q, Q8 ++ listB recB recs = Q := ⟨_, rfl⟩
    rw [hQ] at h2
    have hq9 : Q9.length ≤ 16000000000000 := by have T := HT.out; have tl := T.2.2.2.2.2.2.2.2.1; clear T; rw [← hQ, List.length_append]; omega
    have HQ9 := Lib.hid (show Q9 = ((((((((([] ++ putNum kind) ++ (putNum fs ++ putNum fn)) ++ (putNum ts ++ putNum tn)) ++ putNum id) ++ putNum n) ++ putNum fo) ++ putNum code) ++ txtB key) ++ listB recB recs) from by rw [← hQ, HQ8.out])
    have HX' := Lib.hid (k2.2 _ _ _ _ HX.out (by decide) (by decide))
    clear HX CN k2 hQ HQ8 hq8 p10
    have HX := HX'
    clear HX'
    have p11 := row_cell (j := 11) HX.out rfl
    have hb := HB9.out
    have CN := Lib.hid (wput_nums w1 w2 w1.heap.size Q9 A2 c2 Av nv cv vec h2 HM1.out.vec HV.out.1 HN.out.2.1 (by omega))
    clear h2 hb
    go_wp2_with fail
    refine CN.out.mono ?_
    rintro e w2 ⟨rfl, ⟨A2, c2, h2⟩, k2⟩
    obtain ⟨Q10, hQ⟩ : ∃ Q, Q9 ++ listB putNum vec = Q := ⟨_, rfl⟩
    rw [hQ] at h2
    have hq10 : Q10.length ≤ 16000000001000 := by have T := HT.out; have tl := T.2.2.2.2.2.2.2.2.2.1; clear T; rw [← hQ, List.length_append]; omega
    have HQ10 := Lib.hid (show Q10 = (((((((((([] ++ putNum kind) ++ (putNum fs ++ putNum fn)) ++ (putNum ts ++ putNum tn)) ++ putNum id) ++ putNum n) ++ putNum fo) ++ putNum code) ++ txtB key) ++ listB recB recs) ++ listB putNum vec) from by rw [← hQ, HQ9.out])
    have HX' := Lib.hid (k2.2 _ _ _ _ HX.out (by decide) (by decide))
    clear HX CN k2 hQ HQ9 hq9 p11
    have HX := HX'
    clear HX'
    have p12 := row_cell (j := 12) HX.out rfl
    have hb := HB9.out
    have CN := Lib.hid (wput_ints w1 w2 w1.heap.size Q10 A2 c2 Ap np cp path h2 HM1.out.path HV.out.2.1 HN.out.2.2.1 (by omega))
    clear h2 hb
    go_wp2_with fail
    refine CN.out.mono ?_
    rintro e w2 ⟨rfl, ⟨A2, c2, h2⟩, k2⟩
    obtain ⟨Q11, hQ⟩ : ∃ Q, Q10 ++ listB putNum path = Q := ⟨_, rfl⟩
    rw [hQ] at h2
    have hq11 : Q11.length ≤ 16000000002000 := by have T := HT.out; have tl := T.2.2.2.2.2.2.2.2.2.2.1; clear T; rw [← hQ, List.length_append]; omega
    have HQ11 := Lib.hid (show Q11 = ((((((((((([] ++ putNum kind) ++ (putNum fs ++ putNum fn)) ++ (putNum ts ++ putNum tn)) ++ putNum id) ++ putNum n) ++ putNum fo) ++ putNum code) ++ txtB key) ++ listB recB recs) ++ listB putNum vec) ++ listB putNum path) from by rw [← hQ, HQ10.out])
    have HX' := Lib.hid (k2.2 _ _ _ _ HX.out (by decide) (by decide))
    clear HX CN k2 hQ HQ10 hq10 p12
    have HX := HX'
    clear HX'
    have p13 := row_cell (j := 13) HX.out rfl
    have hb := HB9.out
    have CN := Lib.hid (wput_hashes w1 w2 w1.heap.size Q11 A2 c2 Ah nh ch hashes h2 HM1.out.hashes HM1.out.wh HN.out.2.2.2.1 (by omega))
    clear h2 hb
    go_wp2_with fail
    refine CN.out.mono ?_
    rintro e w2 ⟨rfl, ⟨A2, c2, h2⟩, k2⟩
    obtain ⟨Q12, hQ⟩ : ∃ Q, Q11 ++ listB hshB hashes = Q := ⟨_, rfl⟩
    rw [hQ] at h2
    have hq12 : Q12.length ≤ 16000000003000 := by have T := HT.out; have tl := T.2.2.2.2.2.2.2.2.2.2.2.1; clear T; rw [← hQ, List.length_append]; omega
    have HQ12 := Lib.hid (show Q12 = (((((((((((([] ++ putNum kind) ++ (putNum fs ++ putNum fn)) ++ (putNum ts ++ putNum tn)) ++ putNum id) ++ putNum n) ++ putNum fo) ++ putNum code) ++ txtB key) ++ listB recB recs) ++ listB putNum vec) ++ listB putNum path) ++ listB hshB hashes) from by rw [← hQ, HQ11.out])
    have HX' := Lib.hid (k2.2 _ _ _ _ HX.out (by decide) (by decide))
    clear HX CN k2 hQ HQ11 hq11 p13
    have HX := HX'
    clear HX'
    have p14 := row_cell (j := 14) HX.out rfl
    have hb := HB9.out
    have CN := Lib.hid (wput_ints w1 w2 w1.heap.size Q12 A2 c2 Ao no co route h2 HM1.out.route HV.out.2.2 HN.out.2.2.2.2 (by omega))
    clear h2 hb
    go_wp2_with fail
    refine CN.out.mono ?_
    rintro e w2 ⟨rfl, ⟨A2, c2, h2⟩, k2⟩
    obtain ⟨Q13, hQ⟩ : ∃ Q, Q12 ++ listB putNum route = Q := ⟨_, rfl⟩
    rw [hQ] at h2
    have hq13 : Q13.length ≤ 16000000004000 := by have T := HT.out; have tl := T.2.2.2.2.2.2.2.2.2.2.2.2; clear T; rw [← hQ, List.length_append]; omega
    have HQ13 := Lib.hid (show Q13 = ((((((((((((([] ++ putNum kind) ++ (putNum fs ++ putNum fn)) ++ (putNum ts ++ putNum tn)) ++ putNum id) ++ putNum n) ++ putNum fo) ++ putNum code) ++ txtB key) ++ listB recB recs) ++ listB putNum vec) ++ listB putNum path) ++ listB hshB hashes) ++ listB putNum route) from by rw [← hQ, HQ12.out])
    have HX' := Lib.hid (k2.2 _ _ _ _ HX.out (by decide) (by decide))
    clear HX CN k2 hQ HQ12 hq12 p14
    have HX := HX'
    clear HX'
    clear HX HT HN HB9 HV HG HM1
    have HH := Lib.hid (show msgB ⟨kind, fs, fn, ts, tn, id, n, fo, code, key, recs, vec, path, hashes, route⟩ = Q13 from by rw [HQ13.out]; unfold msgB; simp only [List.nil_append, List.append_assoc])
    have HK := Lib.hid (WSt.lower HB.out h2)
    have q0 := cell_of_one HK.out.box
    clear h2 HQ13
    have hc1 := (own_caps HK.out.own).1
    by_cases hlong : Q13.length ≤ 1048576
    · have HE := Lib.hid (putMsgE_ok HR0.out (by rw [HH.out]; exact hlong))
      have C3 := Lib.hid (framePut_any A2 Q13.length c2 Q13 w2 (Sl.of_own HK.out.own) hlong hc1)
      go_wp2_with fail
      refine C3.out.mono ?_
      rintro e w3 ⟨Af, nf, cf, rfl, s3, hc3, own3, b3⟩
      have hc4 := (own_caps own3).2
      have HF := Lib.hid (And.intro s3 (And.intro hc3 (And.intro hc4 (And.intro own3 b3))))
      clear s3 own3 b3
      go_wp2
      go_ret2
      rw [HE.out, HH.out]
      exact ⟨Af, nf, _, rfl, HF.out.1, HF.out.2.1, HF.out.2.2.1, HK.out.below.trans (HF.out.2.2.2.2.mono HK.out.below.size), own_lower HF.out.2.2.2.1 HK.out.below.size⟩
    · have HE := Lib.hid (putMsgE_long HR0.out (by rw [HH.out]; exact hlong))
      have C3 := Lib.hid (framePut_long A2 Q13.length c2 w2 (by omega) (by omega))
      go_wp2_with fail
      refine C3.out.mono ?_
      rintro e w3 ⟨rfl, rfl⟩
      go_wp2
      go_ret2
      rw [HE.out]
      exact NewBytesE.nil HK.out.below
end Go.Proofs.Ytgnedaihchmoaaa
