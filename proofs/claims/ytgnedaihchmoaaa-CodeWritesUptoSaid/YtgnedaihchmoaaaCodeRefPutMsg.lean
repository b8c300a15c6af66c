/-
  firthref06.PutMsg answers what code.PutMsg does.
-/
import Derived.Test.YtgnedaihchmoaaaCodeRefInner
import Derived.Test.YtgnedaihchmoaaaCodeRefRightM
import Derived.Test.YtgnedaihchmoaaaFramePut
namespace Go.Proofs.Ytgnedaihchmoaaa
open Go.RowKit
set_option linter.unusedVariables false

set_option maxHeartbeats 4000000 in
set_option maxRecDepth 100000 in
theorem refPutMsg_any (w : World) (x : Mx) (hv : MRow w x) (hnr : x.nr ≤ 1048576) :
    Calls Try.prog 11 #[.agg x.cells] w (NewBytesE w (putMsgE x.m).1 (putMsgE x.m).2) := by
  have bA : Below w.heap.size w (w.alloc (.cells x.cells 30)) := (Below.refl _ _).alloc (Nat.le_refl _) _
  have hb := heap_alloc_new w (.cells x.cells 30)
  have c1 := refRightMsg_any x _ (hv.below bA)
  have c2 := fun (W : World) (b : Below w.heap.size w W) (hr : rightM x.m = true) => refInner_any W x (hv.below b) hr hnr
  have HA := Lib.hid bA
  clear hv bA
  obtain ⟨⟨kind, fs, fn, ts, tn, id, mn, fo, code, key, recs, vec, path, hashes, route⟩, Ar, nr, cr, Av, nv, cv, Ap, np, cp, Ah, nh, ch, Ao, no, co⟩ := x
  unfold Mx.cells at *
  simp only at hb c1 c2 HA hnr ⊢
  obtain ⟨⟨p0, p1, p2, p3, p4⟩, ⟨p5, p6, p7, p8, p9⟩, p10, p11, p12, p13, p14⟩ := msg_cells hb
  have HX := Lib.hid hb
  have C2 := Lib.hid c2
  clear hb c2 hnr
  cases hr : rightM ⟨kind, fs, fn, ts, tn, id, mn, fo, code, key, recs, vec, path, hashes, route⟩
  · rw [hr] at c1
    have C1 := Lib.hid c1
    rw [putMsgE_no hr]
    clear c1 hr
    go_enter Try.func11, Try.ntmps11
    go_wp2_with fail
    refine C1.out.mono ?_
    rintro e w1 ⟨rfl, b1⟩
    have HB := Lib.hid (HA.out.trans (b1.mono HA.out.size))
    clear b1 C1
    go_wp2
    go_ret2
    exact NewBytesE.nil HB.out
  · rw [hr] at c1
    have C1 := Lib.hid c1
    have HR0 := Lib.hid hr
    obtain ⟨L, hL⟩ : ∃ L, msgB ⟨kind, fs, fn, ts, tn, id, mn, fo, code, key, recs, vec, path, hashes, route⟩ = L := ⟨_, rfl⟩
    have HL := Lib.hid hL
    clear c1 hr hL
    go_enter Try.func11, Try.ntmps11
    go_wp2_with fail
    refine C1.out.mono ?_
    rintro e w1 ⟨rfl, b1⟩
    have HB := Lib.hid (HA.out.trans (b1.mono HA.out.size))
    have X1 := (b1.block _ (lt_of_block HX.out)).trans HX.out
    have C3 := Lib.hid (C2.out w1 HB.out HR0.out)
    clear p0 p1 p2 p3 p4 p5 p6 p7 p8 p9 p10 p11 p12 p13 p14
    clear b1 C1 C2 HX
    obtain ⟨⟨p0, p1, p2, p3, p4⟩, ⟨p5, p6, p7, p8, p9⟩, p10, p11, p12, p13, p14⟩ := msg_cells X1
    clear X1
    go_wp2_with fail
    refine C3.out.mono ?_
    intro e w2 h2
    rw [HL.out] at h2
    obtain ⟨A2, n2, c2, rfl, s2, hc2, hm2, b2, -⟩ := h2.read
    have e2 := s2.len
    have HB2 := Lib.hid (HB.out.trans (b2.mono HB.out.size))
    have HS2 := Lib.hid s2
    clear p0 p1 p2 p3 p4 p5 p6 p7 p8 p9 p10 p11 p12 p13 p14
    clear C3 b2 s2 HB h2
    by_cases hl : n2 ≤ 1048576
    · have HO := Lib.hid (show putMsgE ⟨kind, fs, fn, ts, tn, id, mn, fo, code, key, recs, vec, path, hashes, route⟩ = (putF L, 0) from by rw [putMsgE_ok HR0.out (by rw [HL.out]; omega), HL.out])
      have C4 := Lib.hid (refPutF_any A2 n2 c2 L w2 HS2.out hl)
      clear e2
      go_wp2_with fail
      refine C4.out.mono ?_
      intro e w3 h3
      obtain ⟨A3, n3, c3, rfl, s3, hc3, hm3, b3, o3⟩ := h3.read
      have HE := Lib.hid (show NewBytesE w (putMsgE ⟨kind, fs, fn, ts, tn, id, mn, fo, code, key, recs, vec, path, hashes, route⟩).1 (putMsgE ⟨kind, fs, fn, ts, tn, id, mn, fo, code, key, recs, vec, path, hashes, route⟩).2 (.returned (.tuple #[.slice A3 n3 c3, .int .i64 0])) w3 from by rw [HO.out]; exact ⟨A3, n3, c3, rfl, s3, hc3, hm3, HB2.out.trans (b3.mono HB2.out.size), own_lower o3 HB2.out.size⟩)
      clear h3 C4 s3 hc3 hm3 b3 o3
      go_wp2
      go_ret2
      exact HE.out
    · have HE := Lib.hid (show NewBytesE w (putMsgE ⟨kind, fs, fn, ts, tn, id, mn, fo, code, key, recs, vec, path, hashes, route⟩).1 (putMsgE ⟨kind, fs, fn, ts, tn, id, mn, fo, code, key, recs, vec, path, hashes, route⟩).2 (.returned (.tuple #[.slice none 0 0, .int .i64 3])) w2 from by rw [putMsgE_long HR0.out (by rw [HL.out]; omega)]; exact NewBytesE.nil HB2.out)
      clear e2
      go_wp2
      go_ret2
      exact HE.out
end Go.Proofs.Ytgnedaihchmoaaa
