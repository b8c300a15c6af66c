/-
  firth/code.PutRec (as XCodePutMsg has it).
-/
import Derived.Test.YtilagblpamhmkaaMG
import Derived.Test.YtilagblpamhmkaaCodeRight
namespace Go.Proofs.Ytilagblpamhmkaa
open Go.RowKit
set_option linter.unusedVariables false

noncomputable def putRecE (r : Rc) : List UInt8 × Int := if rightR r = true then (recB r, 0) else ([], 1)
set_option maxHeartbeats 1000000 in
theorem putRec_any (w : World) (r : Rc) (A : Option Addr) (n c : Nat) (hv : RRow w r A n c) :
    Calls Try.prog 52 #[.agg #[.string r.key, .slice A n c]] w (NewBytesE w (putRecE r).1 (putRecE r).2) := by
  have bA : Below w.heap.size w (w.alloc (.cells #[.string r.key, .slice A n c] 32)) := (Below.refl _ _).alloc (Nat.le_refl _) _
  have hb := heap_alloc_new w (.cells #[.string r.key, .slice A n c] 32)
  have c1 := rightRec_any r A n c _ (hv.below bA)
  have g0 := row_cell (j := 0) hb rfl
  have g1 := row_cell (j := 1) hb rfl
  have HV := Lib.hid hv.sl
  have HX := Lib.hid hb
  have HA := Lib.hid bA
  unfold putRecE
  clear hv hb bA
  cases hr : rightR r
  · rw [hr] at c1
    have C1 := Lib.hid c1
    clear c1 hr
    obtain ⟨key, vers⟩ := r
    simp only at g0 g1 C1 ⊢
    go_enter Try.func52, Try.ntmps52
    go_wp2_with fail
    refine C1.out.mono ?_
    rintro e w1 ⟨rfl, b1⟩
    have HB := Lib.hid (HA.out.trans (b1.mono HA.out.size))
    clear b1 C1
    go_wp2
    go_ret2
    exact NewBytesE.nil HB.out
  · rw [hr] at c1
    have C1 := Lib.hid c1
    have HR := Lib.hid hr
    clear c1 hr
    obtain ⟨key, vers⟩ := r
    simp only at g0 g1 C1 HV ⊢
    go_enter Try.func52, Try.ntmps52
    go_wp2_with fail
    refine C1.out.mono ?_
    rintro e w1 ⟨rfl, b1⟩
    have HB := Lib.hid (HA.out.trans (b1.mono HA.out.size))
    have X1 := (b1.block _ (lt_of_block HX.out)).trans HX.out
    have hlx := lt_of_block X1
    have X2 := (Below.heap_alloc w1 (.cells #[.slice none 0 0] 109) w.heap.size hlx).trans X1
    have C2 := Lib.hid (wrec_any w1 _ w1.heap.size [] none 0 ⟨key, vers⟩ A n c (WSt.start w1 rfl) (HV.out.below HB.out) HR.out (by simp))
    have p0 := row_cell (j := 0) X2 rfl
    have p1 := row_cell (j := 1) X2 rfl
    clear b1 C1 g0 g1 X1 X2
    go_wp2_with fail
    refine C2.out.mono ?_
    rintro e w2 ⟨rfl, ⟨A2, c2, h2⟩, -⟩
    have HK := Lib.hid (WSt.lower HB.out h2)
    have q0 := cell_of_one h2.box
    clear h2 C2
    go_wp2
    go_ret2
    exact NewBytesE.of HK.out
end Go.Proofs.Ytilagblpamhmkaa
