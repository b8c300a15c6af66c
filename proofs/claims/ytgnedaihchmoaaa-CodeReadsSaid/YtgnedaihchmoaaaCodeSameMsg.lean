/-
  firthref06.Same of messages that are the same.
-/
import Derived.Test.YtgnedaihchmoaaaCodeSame
import Derived.Test.YtgnedaihchmoaaaCodePutMsg
namespace Go.Proofs.Ytgnedaihchmoaaa
open Go.RowKit
set_option linter.unusedVariables false

theorem vecs_true (A1 A2 : Option Addr) (n1 n2 c1 c2 : Nat) (l : List Int) (w : World) (h1 : Sl w A1 n1 1 (l.map (Value.int .i64))) (h2 : Sl w A2 n2 1 (l.map (Value.int .i64))) (hn : n1 ≤ 140737488351232) :
    Calls Try.prog 62 #[.slice A1 n1 c1, .slice A2 n2 c2] w (BoolE w true) := by
  refine (sameI_any A1 A2 n1 n2 c1 c2 l l w h1 h2 (by unfold maxLen; omega)).mono ?_
  rintro e w' ⟨rfl, k, rfl⟩
  exact BoolE.of (by simp) (below_drewN (Below.refl _ _) _)
set_option maxHeartbeats 8000000 in
set_option maxRecDepth 100000 in
theorem same_true (x y : Mx) (hxy : x.m = y.m) (w : World) (hx : MRow w x) (hy : MRow w y) :
    Calls Try.prog 17 #[.agg x.cells, .agg y.cells] w (BoolE w true) := by
  have b1 : Below w.heap.size w (w.alloc (.cells x.cells 30)) := (Below.refl _ _).alloc (Nat.le_refl _) _
  have b2 := b1.alloc b1.size (.cells y.cells 30)
  have hp := (Below.heap_alloc _ (.cells y.cells 30) _ (by simp)).trans (heap_alloc_new w (.cells x.cells 30))
  have hq := heap_alloc_new (w.alloc (.cells x.cells 30)) (.cells y.cells 30)
  rw [show (w.alloc (.cells x.cells 30)).heap.size = w.heap.size + 1 by simp] at hq
  have HX := Lib.hid (hx.below b2)
  have HZ := Lib.hid (hy.below b2)
  obtain ⟨⟨kind, fs, fn, ts, tn, id, n, fo, code, key, recs, vec, path, hashes, route⟩, Ar, nr, cr, Av, nv, cv, Ap, np, cp, Ah, nh, ch, Ao, no, co⟩ := x
  obtain ⟨m, Br, mr, dr, Bv, mv, dv, Bp, mp, dp, Bh, mh, dh, Bo, mo, do_⟩ := y
  simp only at hxy
  subst hxy
  unfold Mx.cells at *
  simp only at hp hq b2 HX HZ ⊢
  have HP := Lib.hid hp
  have HY := Lib.hid hq
  have HB := Lib.hid b2
  have a1 : ∀ w : World, (binOp .eql 23 (.agg #[.int .i64 fs, .int .i64 fn]) (.agg #[.int .i64 fs, .int .i64 fn])).run Try.prog w = .ok (.bool true) w := fun w => by rw [eq_addr]; simp
  have a2 : ∀ w : World, (binOp .eql 23 (.agg #[.int .i64 ts, .int .i64 tn]) (.agg #[.int .i64 ts, .int .i64 tn])).run Try.prog w = .ok (.bool true) w := fun w => by rw [eq_addr]; simp
  have p0 := row_cell (j := 0) HP.out rfl
  have q0 := row_cell (j := 0) HY.out rfl
  have p1 := row_cell (j := 1) HP.out rfl
  have q1 := row_cell (j := 1) HY.out rfl
  have p2 := row_cell (j := 2) HP.out rfl
  have q2 := row_cell (j := 2) HY.out rfl
  have p3 := row_cell (j := 3) HP.out rfl
  have q3 := row_cell (j := 3) HY.out rfl
  have p4 := row_cell (j := 4) HP.out rfl
  have q4 := row_cell (j := 4) HY.out rfl
  have p5 := row_cell (j := 5) HP.out rfl
  have q5 := row_cell (j := 5) HY.out rfl
  have p6 := row_cell (j := 6) HP.out rfl
  have q6 := row_cell (j := 6) HY.out rfl
  have p7 := row_cell (j := 7) HP.out rfl
  have q7 := row_cell (j := 7) HY.out rfl
  have p8 := row_cell (j := 8) HP.out rfl
  have q8 := row_cell (j := 8) HY.out rfl
  have p9 := row_cell (j := 9) HP.out rfl
  have q9 := row_cell (j := 9) HY.out rfl
  have p10 := row_cell (j := 10) HP.out rfl
  have q10 := row_cell (j := 10) HY.out rfl
  have C := Lib.hid (sameRecs_true Ar Br nr mr cr dr recs _ HX.out.recs HZ.out.recs (by have := HX.out.lr; simp only at this; omega))
  clear hp hq b1 b2 hx hy
  go_enter Try.func17, Try.ntmps17
  go_wp2_with fail
  refine C.out.mono ?_
  rintro e w2 ⟨rfl, b2⟩
  have HB' := Lib.hid (HB.out.trans (b2.mono HB.out.size))
  have HP' := Lib.hid ((b2.block _ (lt_of_block HP.out)).trans HP.out)
  have HY' := Lib.hid ((b2.block _ (lt_of_block HY.out)).trans HY.out)
  have HX' := Lib.hid (HX.out.below b2)
  have HZ' := Lib.hid (HZ.out.below b2)
  clear HB HP HY HX HZ b2 C
  have HB := HB'
  have HP := HP'
  have HY := HY'
  have HX := HX'
  have HZ := HZ'
  clear HB' HP' HY' HX' HZ'
  have C := Lib.hid (vecs_true Av Bv nv mv cv dv vec _ HX.out.vec HZ.out.vec HX.out.lv)
  clear p0 q0 p1 q1 p2 q2 p3 q3 p4 q4 p5 q5 p6 q6 p7 q7 p8 q8 p9 q9 p10 q10
  have p11 := row_cell (j := 11) HP.out rfl
  have q11 := row_cell (j := 11) HY.out rfl
  go_wp2_with fail
  refine C.out.mono ?_
  rintro e w2 ⟨rfl, b2⟩
  have HB' := Lib.hid (HB.out.trans (b2.mono HB.out.size))
  have HP' := Lib.hid ((b2.block _ (lt_of_block HP.out)).trans HP.out)
  have HY' := Lib.hid ((b2.block _ (lt_of_block HY.out)).trans HY.out)
  have HX' := Lib.hid (HX.out.below b2)
  have HZ' := Lib.hid (HZ.out.below b2)
  clear HB HP HY HX HZ b2 C
  have HB := HB'
  have HP := HP'
  have HY := HY'
  have HX := HX'
  have HZ := HZ'
  clear HB' HP' HY' HX' HZ'
  have C := Lib.hid (ints_true Ap Bp np mp cp dp path _ HX.out.path HZ.out.path HX.out.lp)
  clear p11 q11
  have p12 := row_cell (j := 12) HP.out rfl
  have q12 := row_cell (j := 12) HY.out rfl
  go_wp2_with fail
  refine C.out.mono ?_
  rintro e w2 ⟨rfl, b2⟩
  have HB' := Lib.hid (HB.out.trans (b2.mono HB.out.size))
  have HP' := Lib.hid ((b2.block _ (lt_of_block HP.out)).trans HP.out)
  have HY' := Lib.hid ((b2.block _ (lt_of_block HY.out)).trans HY.out)
  have HX' := Lib.hid (HX.out.below b2)
  have HZ' := Lib.hid (HZ.out.below b2)
  clear HB HP HY HX HZ b2 C
  have HB := HB'
  have HP := HP'
  have HY := HY'
  have HX := HX'
  have HZ := HZ'
  clear HB' HP' HY' HX' HZ'
  have C := Lib.hid (hashes_true Ah Bh nh mh ch dh hashes _ HX.out.hashes HZ.out.hashes HX.out.lh)
  clear p12 q12
  have p13 := row_cell (j := 13) HP.out rfl
  have q13 := row_cell (j := 13) HY.out rfl
  go_wp2_with fail
  refine C.out.mono ?_
  rintro e w2 ⟨rfl, b2⟩
  have HB' := Lib.hid (HB.out.trans (b2.mono HB.out.size))
  have HP' := Lib.hid ((b2.block _ (lt_of_block HP.out)).trans HP.out)
  have HY' := Lib.hid ((b2.block _ (lt_of_block HY.out)).trans HY.out)
  have HX' := Lib.hid (HX.out.below b2)
  have HZ' := Lib.hid (HZ.out.below b2)
  clear HB HP HY HX HZ b2 C
  have HB := HB'
  have HP := HP'
  have HY := HY'
  have HX := HX'
  have HZ := HZ'
  clear HB' HP' HY' HX' HZ'
  have C := Lib.hid (ints_true Ao Bo no mo co do_ route _ HX.out.route HZ.out.route HX.out.lo)
  clear p13 q13
  have p14 := row_cell (j := 14) HP.out rfl
  have q14 := row_cell (j := 14) HY.out rfl
  go_wp2_with fail
  refine C.out.mono ?_
  rintro e w2 ⟨rfl, b2⟩
  have HB' := Lib.hid (HB.out.trans (b2.mono HB.out.size))
  clear b2 C HP HY HX HZ p14 q14 HB
  go_wp2
  go_ret
  exact ⟨rfl, HB'.out⟩
end Go.Proofs.Ytgnedaihchmoaaa
