/-
  The walk of firthlaw03.SpanLooks.
-/
import Derived.Test.YtdndjegpkbdbeaaSpanAwake
import Derived.OpenShut
namespace Go.Proofs.Ytdndjegpkbdbeaa
open Go.RowKit
set_option linter.unusedVariables false

theorem SlS.ext {w : World} {A : Option Addr} {n : Nat} {l : List Sp} (h : SlS w A n l) (x : Ext w) : SlS x.w A n l := Sl.below h x.below

set_option maxHeartbeats 1000000 in
set_option maxRecDepth 100000 in
theorem spanLooks_walk (a0 : Option Addr) (len0 cap0 : Nat) (l0 : List Sp) (dx dy : Int) (w : World)
    (s0 : SlS w a0 len0 l0) (f0 : ∀ x ∈ l0, wfSp x) (b0 : len0 ≤ cap0) (z0 : cap0 * 24 ≤ 140737488351232) (wx : (Lit.int .i64 dx).wf = true) (wy : (Lit.int .i64 dy).wf = true) :
    Calls Try.prog 7 #[.slice a0 len0 cap0, .agg #[.int .i64 dx, .int .i64 dy]] w fun e w' => e = .returned (.bool true) ∧ Below w.heap.size w w' := by
  have hn0 : len0 ≤ 140737488351232 := by omega
  have S0 := Lib.hid (SlS.ext (Sl.alloc s0 (.cells #[.int .i64 dx, .int .i64 dy] 24)))
  have K0 := Ext.cell (Box2.new w 24 dx dy).c0
  have K1 := Ext.cell (Box2.new w 24 dx dy).c1
  have B0 : Below w.heap.size w (w.alloc (.cells #[.int .i64 dx, .int .i64 dy] 24)) := (Below.refl _ _).alloc (Nat.le_refl _) _
  have HB := Lib.hid B0
  clear f0 wx wy s0 B0
  go_enter Try.func7, Try.ntmps7
  go_wp2_with fail
  refine wp_region_ext (by kernel_rfl) (by kernel_rfl) ?_
  repeat (go_big_quiet_step (first
    | (go_at_call 12; exact Calls.ext_of (awakeS_any _))
    | (go_at_call 15; exact Calls.ext_of (spanRight_any _ _ _ l0 _ (S0.out _) hn0))
    | (go_at_call 17; exact Calls.ext_of (refRightS_any _ _ _ l0 _ (S0.out _) hn0))
    | (go_at_call 18; exact Calls.ext_of (spanHas_any _ _ _ l0 _ _ _ (S0.out _) hn0))
    | (go_at_call 19; exact Calls.ext_of (refHas_any _ _ _ l0 _ _ _ (S0.out _) hn0))
    | (go_at_call 20; exact Calls.ext_of (spanTop_any _ _ _ l0 _ _ (S0.out _) hn0))
    | (go_at_call 21; exact Calls.ext_same (refTop_any _ _ _ l0 _ _ (S0.out _) hn0))))
  refine wpQuiet_nil ?_
  intro w1 hw1
  have b1 := ext_end hw1
  clear hw1 K0 K1
  go_wp2
  go_ret
  exact ⟨by simp, HB.out.trans (b1.mono HB.out.size)⟩
end Go.Proofs.Ytdndjegpkbdbeaa
