/-
  firthref06.Read: a text, an address, a record.
-/
import Derived.Test.YtgnedaihchmoaaaCodeRefPlain
import Derived.Test.YtgnedaihchmoaaaMF
import Derived.Test.YtgnedaihchmoaaaMG
namespace Go.Proofs.Ytgnedaihchmoaaa
open Go.RowKit
set_option linter.unusedVariables false

set_option maxHeartbeats 1000000 in
theorem qtext_one {w : World} {r : Nat} {A : Option Addr} {n c : Nat} {L : List UInt8} {a : Nat} {bad : Bool} (h : QSt w r A n c L a bad) :
    Calls Try.prog 59 #[.pointer (some ⟨r, 0, none⟩)] w (QOne QTextV w r A n c L (gText L a) bad) := by
  cases bad with
  | true =>
    have c2 := h.c2
    have H := Lib.hid h
    clear h
    go_enter Try.func59, Try.ntmps59
    go_wp2
    go_ret
    exact ⟨_, ByteArray.empty, a, true, rfl, ⟨rfl, by decide⟩, H.out, Fr.refl _ _, ⟨fun h => (by cases h), fun _ => .inl rfl⟩⟩
  | false =>
    have hl := h.len
    have hsz := h.size
    cases hp : gText L a with
    | some p =>
      obtain ⟨t, a1⟩ := p
      have hle := textForm.le L a t a1 hp
      have hT := textOf_yes hp
      have hts := text_size hp
      rw [hl] at hT
      have C := Lib.hid (fun z : Ext w => calls_swap (show Calls Try.prog 105 #[.slice A n c, .int .i64 (a : Int), .int .i64 (n : Int)] z.w (fun e w' => e = .returned (.tuple #[.string t, .int .i64 (a1 : Int), .int .i64 0]) ∧ z.w = w') from by
        have h1 := refText_any A n c a (n : Int) L z.w (h.move z.below).sl h.cap h.size h.le (by have := h.size; omega)
        rw [hT] at h1
        exact h1))
      clear hp hT
      have C0 := Ext.cell h.c0
      have C1 := Ext.cell h.c1
      have c2 := h.c2
      have H := Lib.hid h
      clear h
      go_enter Try.func59, Try.ntmps59
      go_wp2_with fail
      refine wp_region_ext (by kernel_rfl) (by kernel_rfl) ?_
      repeat (go_big_quiet_step ((go_at_call 105; exact Calls.ext_same (C.out _))))
      refine wpQuiet_nil ?_
      intro w1 hw1
      have b1 := ext_end hw1
      have H1 := Lib.hid (H.out.move b1)
      have f1 := H1.out.fr 1
      have f2 := H1.out.fr 2
      have c1 := H1.out.c1
      have c2' := H1.out.c2
      have HB := Lib.hid b1
      clear hw1 C0 C1 b1 c2
      have HE := Lib.hid (H1.out.setAt (b := a1) (by omega))
      go_wp2
      go_ret
      exact ⟨_, t, a1, false, rfl, ⟨rfl, by omega⟩, HE.out.1, (Fr.of_below HB.out).trans HE.out.2 (fun _ h => .inl h), ⟨fun _ => ⟨rfl, rfl⟩, fun h => (by cases h)⟩⟩
    | none =>
      obtain ⟨x, hx, hT⟩ := textOf_no hp
      rw [hl] at hT
      have hx0 : (x == 0) = false := by rw [beq_eq_false_iff_ne]; omega
      have hx1 : (x != 0) = true := by rw [bne_iff_ne]; omega
      have C := Lib.hid (fun z : Ext w => calls_swap (show Calls Try.prog 105 #[.slice A n c, .int .i64 (a : Int), .int .i64 (n : Int)] z.w (fun e w' => e = .returned (.tuple #[.string ByteArray.empty, .int .i64 0, .int .i64 x]) ∧ z.w = w') from by
        have h1 := refText_any A n c a (n : Int) L z.w (h.move z.below).sl h.cap h.size h.le (by have := h.size; omega)
        rw [hT] at h1
        exact h1))
      clear hp hT hx
      have C0 := Ext.cell h.c0
      have C1 := Ext.cell h.c1
      have c2 := h.c2
      have H := Lib.hid h
      clear h
      go_enter Try.func59, Try.ntmps59
      go_wp2_with fail
      refine wp_region_ext (by kernel_rfl) (by kernel_rfl) ?_
      repeat (go_big_quiet_step ((go_at_call 105; exact Calls.ext_same (C.out _))))
      refine wpQuiet_nil ?_
      intro w1 hw1
      have b1 := ext_end hw1
      have H1 := Lib.hid (H.out.move b1)
      have f1 := H1.out.fr 1
      have f2 := H1.out.fr 2
      have c1 := H1.out.c1
      have c2' := H1.out.c2
      have HB := Lib.hid b1
      clear hw1 C0 C1 b1 c2
      have HE := Lib.hid H1.out.setBad
      go_wp2
      go_ret
      exact ⟨_, ByteArray.empty, a, true, rfl, ⟨rfl, by decide⟩, HE.out.1, (Fr.of_below HB.out).trans HE.out.2 (fun _ h => .inl h), ⟨fun h => (by cases h), fun _ => .inr rfl⟩⟩
set_option maxHeartbeats 1000000 in
theorem qaddr_one {w : World} {r : Nat} {A : Option Addr} {n c : Nat} {L : List UInt8} {a : Nat} {bad : Bool} (h : QSt w r A n c L a bad) :
    Calls Try.prog 58 #[.pointer (some ⟨r, 0, none⟩)] w (QOne AddrV w r A n c L (gAddr L a) bad) := by
  have bA : Below w.heap.size w (w.alloc (.cells #[.int .i64 0, .int .i64 0] 23)) := (Below.refl _ _).alloc (Nat.le_refl _) _
  have FA := Lib.hid (Fr.of_below bA (fp := fun i => i = r))
  have hrl := h.lt
  have X0 := Lib.hid (heap_alloc_new w (.cells #[.int .i64 0, .int .i64 0] 23))
  have HB := Lib.hid h.blk
  have C1 := Lib.hid (qnum_int (h.move bA))
  clear h bA
  go_enter Try.func58, Try.ntmps58
  go_wp2_with fail
  refine C1.out.mono ?_
  rintro e w1 ⟨_, s, a1, b1, rfl, ⟨rfl, hs0, hs1⟩, h1, f1, q1⟩
  have F1 := Lib.hid (FA.out.on f1)
  have X1 := Lib.hid ((f1.block _ (lt_of_block X0.out) (by omega)).trans X0.out)
  have C2 := Lib.hid (qnum_int h1)
  have HQ1 := Lib.hid q1
  clear h1 f1 q1 C1 X0 FA
  go_wp2_with fail
  refine C2.out.mono ?_
  rintro e w2 ⟨_, m, a2, b2, rfl, ⟨rfl, hm0, hm1⟩, h2, f2, q2⟩
  have F2 := Lib.hid (F1.out.on f2)
  have hX2 := (f2.block _ (lt_of_block X1.out) (by omega)).trans X1.out
  have x0 := row_cell (j := 0) hX2 rfl
  have x1 := row_cell (j := 1) hX2 rfl
  have z0 := frozen_of_row w2 w.heap.size 0 _ _ hX2
  have z1 := frozen_of_row w2 w.heap.size 1 _ _ hX2
  have k1 := heap_setCell_same _ w.heap.size 1 _ _ (.int .i64 m) (heap_setCell_same w2 w.heap.size 0 _ _ (.int .i64 s) hX2)
  have y0 := row_cell (j := 0) k1 rfl
  have y1 := row_cell (j := 1) k1 rfl
  have HY := Lib.hid (And.intro y0 y1)
  have hlx := lt_of_block hX2
  have hfar : ∀ b' off s', 0 < n → A = some ⟨b', off, s'⟩ → b' ≠ w.heap.size := fun b' off s' hn e => by have := HB.out b' off s' hn e; omega
  have HE := Lib.hid (show QOne AddrV w r A n c L (gAddr L a) bad (.returned (.agg #[.int .i64 s, .int .i64 m])) ((w2.setCell ⟨w.heap.size, 0, none⟩ (.int .i64 s)).setCell ⟨w.heap.size, 1, none⟩ (.int .i64 m)) from
    ⟨_, (s, m), a2, b2, rfl, rfl, (h2.setOther (b := w.heap.size) (j := 0) (by omega) hfar _).setOther (b := w.heap.size) (j := 1) (by omega) hfar _, (F2.out.put (Nat.le_refl _) _).put (Nat.le_refl _) _,
      ((((show QG (startO (gAddr L a) bad) bad (bindP gInt (fun s a1 => bindP gInt (fun n a2 => some ((s, n), a2)) L a1) L a) from QG.start _ _).step HQ1.out).step q2).res)⟩)
  clear h2 f2 q2 C2 X1 F1 hX2 k1 y0 y1 F2 HQ1 hfar
  go_wp2
  obtain ⟨y0, y1⟩ := HY.out
  refine bodyPost_ret (v := .agg #[.int .i64 s, .int .i64 m]) ?_ rfl HE.out
  simp [results, Try.results58, go_sem, y0, y1]
end Go.Proofs.Ytgnedaihchmoaaa
