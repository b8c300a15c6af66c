/-
  firth/code's reader: a number, an int, a span; a list of spans.
-/
import Derived.Test.YtlhcohpcjleekaaCodePlain
import Derived.Test.YtlhcohpcjleekaaNumReadAll
import Derived.Test.YtlhcohpcjleekaaStepAppend
import Derived.Test.YtlhcohpcjleekaaSpanSame
import Derived.Test.YtlhcohpcjleekaaFoot
import Derived.Test.YtlhcohpcjleekaaExt
import Derived.Test.YtlhcohpcjleekaaHeld
import Derived.WalkSmall
namespace Go.Proofs.Ytlhcohpcjleekaa
open Go.RowKit
set_option linter.unusedVariables false

theorem calls_swap {P : Program} {f : FuncId} {args : Array Value} {w : World} {v : Value} (h : Calls P f args w fun e w' => e = .returned v ∧ w = w') : Calls P f args w fun e w' => e = .returned v ∧ w' = w := h.mono fun _ _ q => ⟨q.1, q.2.symm⟩
/-- Where a reader stands. -/
structure RSt (w : World) (r : Nat) (A : Option Addr) (n c : Nat) (L : List UInt8) (a : Nat) : Prop where
  box : w.heap[r]? = some (.cells #[.slice A n c, .int .i64 (a : Int)] 88 (0, 0))
  sl : SlB w A n L
  far : ∀ b off s, 0 < n → A = some ⟨b, off, s⟩ → b ≠ r
  le : a ≤ n
  cap : n ≤ c
  size : n ≤ 140737488351232
/-- How a reader gives up. -/
def wrongE : Ending := .panicked [{ v := .iface 86 (.agg #[]), recovered := false }]
section
variable {w w1 : World} {r : Nat} {A : Option Addr} {n c : Nat} {L : List UInt8} {a : Nat}
theorem RSt.len (h : RSt w r A n c L a) : L.length = n := h.sl.len
theorem RSt.lt (h : RSt w r A n c L a) : r < w.heap.size := lt_of_block h.box
theorem RSt.c0 (h : RSt w r A n c L a) : w.cell? ⟨r, 0, none⟩ = some (.slice A n c) := by rw [cell_of_row w r 0 _ _ (0, 0) h.box]; rfl
theorem RSt.c1 (h : RSt w r A n c L a) : w.cell? ⟨r, 1, none⟩ = some (.int .i64 (a : Int)) := by rw [cell_of_row w r 1 _ _ (0, 0) h.box]; rfl
theorem RSt.fr (h : RSt w r A n c L a) (j : Nat) : w.frozen? ⟨r, j, none⟩ = false := frozen_of_row w r j _ _ h.box
theorem RSt.move (h : RSt w r A n c L a) (b : Below w.heap.size w w1) : RSt w1 r A n c L a :=
  ⟨(b.block r h.lt).trans h.box, Sl.below h.sl b, h.far, h.le, h.cap, h.size⟩
theorem RSt.drewN (h : RSt w r A n c L a) (k : Nat) : RSt (w.drewN k) r A n c L a := h.move (below_drewN (Below.refl _ _) k)
theorem RSt.set (h : RSt w r A n c L a) {b : Nat} (hb : b ≤ n) : RSt (w.setCell ⟨r, 1, none⟩ (.int .i64 (b : Int))) r A n c L b ∧ Fr (fun i => i = r) w (w.setCell ⟨r, 1, none⟩ (.int .i64 (b : Int))) := by
  refine ⟨⟨?_, ?_, h.far, hb, h.cap, h.size⟩, Fr.set w ⟨r, 1, none⟩ _⟩
  · rw [heap_setCell_same w r 1 _ _ _ h.box]; rfl
  · exact Sl.keepB h.sl fun b' off hn e => Below.heap_setCell w _ _ b' (h.far b' off none (by omega) e)
end

set_option maxHeartbeats 1000000 in
theorem rnum_yes {w : World} {r : Nat} {A : Option Addr} {n c : Nat} {L : List UInt8} {a m a1 : Nat} (h : RSt w r A n c L a) (hp : pNum L a = some (m, a1)) :
    Calls Try.prog 47 #[.pointer (some ⟨r, 0, none⟩)] w fun e w' => e = .returned (.int .i64 (m : Int)) ∧ RSt w' r A n c L a1 ∧ Fr (fun i => i = r) w w' := by
  obtain ⟨k, hr, rfl⟩ := pNum_some hp
  have hle := pNum_le hp
  have C := Lib.hid (fun z : Ext w => calls_swap (num_ok (h.move z.below).sl h.cap h.size h.le hr))
  have hl := h.len
  clear hr hp
  have C0 := Ext.cell h.c0
  have C1 := Ext.cell h.c1
  have H := Lib.hid h
  clear h
  go_enter Try.func47, Try.ntmps47
  go_wp2_with fail
  refine wp_region_ext (by kernel_rfl) (by kernel_rfl) ?_
  repeat (go_big_quiet_step ((go_at_call 28; exact Calls.ext_same (C.out _))))
  refine wpQuiet_nil ?_
  intro w1 hw1
  have b1 := ext_end hw1
  have H1 := Lib.hid (H.out.move b1)
  have f1 := H1.out.fr 1
  have c1 := H1.out.c1
  have HB := Lib.hid b1
  clear hw1 C0 C1 b1
  have HE := Lib.hid (H1.out.set (b := a + k) (by omega))
  go_wp2
  go_ret
  have e1 : ((a + k : Nat) : Int) = (a : Int) + (k : Int) := by omega
  have HE1 := HE.out
  rw [e1] at HE1
  exact ⟨rfl, HE1.1, (Fr.of_below HB.out).trans HE1.2 (fun _ h => .inl h)⟩
set_option maxHeartbeats 1000000 in
theorem rnum_no {w : World} {r : Nat} {A : Option Addr} {n c : Nat} {L : List UInt8} {a : Nat} (h : RSt w r A n c L a) (hp : pNum L a = none) :
    Calls Try.prog 47 #[.pointer (some ⟨r, 0, none⟩)] w fun e w' => e = wrongE ∧ Fr (fun i => i = r) w w' := by
  obtain ⟨x, hr⟩ := pNum_none hp
  have hx : x = 2 ∨ x = 4 := rdN_err _ _ _ _ hr
  have hx0 : (x == 0) = false := by rw [beq_eq_false_iff_ne]; omega
  have hx1 : (x != 0) = true := by rw [bne_iff_ne]; omega
  have C := Lib.hid (fun z : Ext w => calls_swap (num_err (h.move z.below).sl h.cap h.size h.le hr))
  clear hr hp hx
  have C0 := Ext.cell h.c0
  have C1 := Ext.cell h.c1
  have H := Lib.hid h
  clear h
  go_enter Try.func47, Try.ntmps47
  go_wp2_with fail
  refine wp_region_ext (by kernel_rfl) (by kernel_rfl) ?_
  repeat (go_big_quiet_step ((go_at_call 28; exact Calls.ext_same (C.out _))))
  refine wpQuiet_nil ?_
  intro w1 hw1
  have b1 := ext_end hw1
  have H1 := Lib.hid (H.out.move b1)
  have f1 := H1.out.fr 1
  have c1 := H1.out.c1
  have HB := Lib.hid b1
  clear hw1 C0 C1 b1
  go_wp2
  exact ⟨rfl, rfl, Fr.of_below HB.out⟩
set_option maxHeartbeats 1000000 in
theorem rint_yes {w : World} {r : Nat} {A : Option Addr} {n c : Nat} {L : List UInt8} {a m a1 : Nat} (h : RSt w r A n c L a) (hp : pNum L a = some (m, a1)) :
    Calls Try.prog 48 #[.pointer (some ⟨r, 0, none⟩)] w fun e w' => e = .returned (.int .i64 (m : Int)) ∧ RSt w' r A n c L a1 ∧ Fr (fun i => i = r) w w' := by
  have hm := (pNum_le hp).2.2.2
  have C := Lib.hid (rnum_yes h hp)
  clear h hp
  go_enter Try.func48, Try.ntmps48
  go_wp2_with fail
  refine C.out.mono ?_
  rintro e w1 ⟨rfl, h1, f1⟩
  have HK := Lib.hid (And.intro h1 f1)
  clear h1 f1 C
  go_wp2
  go_ret
  exact ⟨rfl, HK.out⟩
set_option maxHeartbeats 1000000 in
theorem rint_no {w : World} {r : Nat} {A : Option Addr} {n c : Nat} {L : List UInt8} {a : Nat} (h : RSt w r A n c L a) (hp : pNum L a = none) :
    Calls Try.prog 48 #[.pointer (some ⟨r, 0, none⟩)] w fun e w' => e = wrongE ∧ Fr (fun i => i = r) w w' := by
  have C := Lib.hid (rnum_no h hp)
  clear h hp
  go_enter Try.func48, Try.ntmps48
  go_wp2_with fail
  refine C.out.mono ?_
  rintro e w1 ⟨rfl, f1⟩
  exact ⟨rfl, rfl, f1⟩

def okP (f m : Nat) : Bool := decide ((f : Int) ≤ wrap64 ((f : Int) + (m : Int)))
theorem okP_small (f m : Nat) (h : f + m ≤ 4611686018427387904) : okP f m = true := by
  unfold okP wrap64
  rw [decide_eq_true_eq]
  omega
theorem box3_fr {w w' : World} {r b : Nat} {t : TypeId} {x y z : Int} (h : Fr (fun i => i = r) w w') (hb : Box3 w b t x y z) (hne : b ≠ r) : Box3 w' b t x y z := (h.block b hb.lt hne).trans hb
theorem box3_set1 {w : World} {b : Nat} {t : TypeId} {x y z : Int} (h : Box3 w b t x y z) (u : Int) : Box3 (w.setCell ⟨b, 1, none⟩ (.int .i64 u)) b t x u z := by
  unfold Box3; rw [heap_setCell_same w b 1 _ t _ h]; rfl
theorem box3_set2 {w : World} {b : Nat} {t : TypeId} {x y z : Int} (h : Box3 w b t x y z) (u : Int) : Box3 (w.setCell ⟨b, 2, none⟩ (.int .i64 u)) b t x y u := by
  unfold Box3; rw [heap_setCell_same w b 2 _ t _ h]; rfl
theorem RSt.setOther {w : World} {r : Nat} {A : Option Addr} {n c : Nat} {L : List UInt8} {a b j : Nat} (h : RSt w r A n c L a) (hb : b ≠ r) (hA : ∀ b' off s, 0 < n → A = some ⟨b', off, s⟩ → b' ≠ b) (u : Value) : RSt (w.setCell ⟨b, j, none⟩ u) r A n c L a :=
  ⟨(Below.heap_setCell w ⟨b, j, none⟩ u r (fun e => hb e.symm)).trans h.box, Sl.keepB h.sl fun b' off hn e => Below.heap_setCell w _ _ b' (hA b' off none (by omega) e), h.far, h.le, h.cap, h.size⟩
theorem RSt.blk {w : World} {r : Nat} {A : Option Addr} {n c : Nat} {L : List UInt8} {a : Nat} (h : RSt w r A n c L a) : ∀ b' off s, 0 < n → A = some ⟨b', off, s⟩ → b' < w.heap.size :=
  fun b' off s hn e => Sl.blk_lt h.sl (by omega) e
end Go.Proofs.Ytlhcohpcjleekaa
