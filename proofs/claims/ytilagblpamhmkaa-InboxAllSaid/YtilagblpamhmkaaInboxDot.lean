/-
  firth/inbox: a write's dot, may it be done?
-/
import Derived.Test.YtilagblpamhmkaaInboxState
import Derived.Test.YtilagblpamhmkaaMB
namespace Go.Proofs.Ytilagblpamhmkaa
open Go.RowKit
set_option linter.unusedVariables false

theorem Try.infoDotSize : (Try.prog.info? 39).map (·.size) = some 2 := by kernel_rfl
/-- What a call leaves that answers a plain value. -/
def ValE (w : World) (v : Value) (e : Ending) (w' : World) : Prop := e = .returned v ∧ Below w.heap.size w w'
theorem ver_at {w : World} {A : Option Addr} {n : Nat} {f : Fa} (h : SlV w A n f.rc.vers) (h1 : f.rc.vers.length = 1) :
    ∃ b off A2 n2 c2, A = some ⟨b, off, none⟩ ∧ n = 1 ∧ w.cell? ⟨b, off, none⟩ = some (.int .i64 f.ver.s) ∧ w.cell? ⟨b, off + 1, none⟩ = some (.int .i64 f.ver.n) ∧ w.cell? ⟨b, off + 2, none⟩ = some (.slice A2 n2 c2) ∧ VRow w f.ver A2 n2 c2 := by
  obtain ⟨rows, hr, hs, hv⟩ := h
  have hl : rows.length = 1 := by rw [← hr, List.length_map] at h1; exact h1
  obtain ⟨y, rfl⟩ : ∃ y, rows = [y] := List.length_eq_one_iff.1 hl
  have hn : n = 1 := by have := hs.1; simp [vV1_len] at this; omega
  obtain ⟨b, off, rfl, hc⟩ := hs.2 (by omega)
  have e : f.ver = y.1 := by unfold Fa.ver; rw [← hr]; rfl
  have g := fun j u (hu : (vV1 y)[j]? = some u) => hc j u (by simpa using hu)
  refine ⟨b, off, y.2.1, y.2.2.1, y.2.2.2, rfl, hn, ?_, ?_, ?_, ?_⟩
  · rw [e]; exact g 0 _ rfl
  · rw [e]; exact g 1 _ rfl
  · exact g 2 _ rfl
  · rw [e]; exact hv y (List.mem_singleton.2 rfl)
set_option maxHeartbeats 1000000 in
theorem dotF_any (w : World) (f : Fa) (A : Option Addr) (n c : Nat) (sl : Value) (hv : SlV w A n f.rc.vers) (h1 : f.rc.vers.length = 1) :
    Calls Try.prog 33 #[.agg #[.int .i64 f.src, .int .i64 f.seq, .string f.rc.key, .slice A n c, sl]] w (ValE w (.agg #[.int .i64 f.ver.s, .int .i64 f.ver.n])) := by
  obtain ⟨b, off, A2, n2, c2, rfl, rfl, x0, x1, -, -⟩ := ver_at hv h1
  have hlt := World.block_lt_of_cell? w _ x0
  have i0 : (0 : Int) < ((1 : Nat) : Int) := by decide
  clear hv h1
  go_enter Try.func33, Try.ntmps33
  go_wp2
  have kB := heap_alloc_new (w.alloc (.cells #[.int .i64 f.src, .int .i64 f.seq, .string f.rc.key, .slice (some ⟨b, off, none⟩) 1 c, sl] 35)) (.cells #[.int .i64 f.ver.s, .int .i64 f.ver.n] 39)
  rw [show (w.alloc (.cells #[.int .i64 f.src, .int .i64 f.seq, .string f.rc.key, .slice (some ⟨b, off, none⟩) 1 c, sl] 35)).heap.size = w.heap.size + 1 by simp] at kB
  refine bodyPost_ret (results_cell_row rfl _ _ (w.heap.size + 1) _ #[.int .i64 f.ver.s, .int .i64 f.ver.n] _ _ rfl kB Try.underlying39 rfl Try.infoDotSize) rfl ?_
  exact ⟨rfl, ((Below.refl _ _).alloc (Nat.le_refl _) _).alloc (by simp) _⟩
/-- A write's five cells. -/
def Far5 (w : World) (g : Nat) (f : Fa) (A : Option Addr) (n c : Nat) (sl : Value) : Prop := w.heap[g]? = some (.cells #[.int .i64 f.src, .int .i64 f.seq, .string f.rc.key, .slice A n c, sl] 35 (0, 0))
set_option maxHeartbeats 4000000 in
theorem sameDot_any (w : World) (f x : Fa) (fb : Nat) (Af : Option Addr) (nf cf : Nat) (slf : Value) (A : Option Addr) (n c : Nat) (sl : Value) (hf : Far5 w fb f Af nf cf slf) (hvf : SlV w Af nf f.rc.vers) (h1f : f.rc.vers.length = 1) (hv : SlV w A n x.rc.vers) (h1 : x.rc.vers.length = 1) :
    Calls Try.prog 35 #[.agg #[.int .i64 x.src, .int .i64 x.seq, .string x.rc.key, .slice A n c, sl], .pointer (some ⟨fb, 0, none⟩)] w (ValE w (.bool (sameDot f x))) := by
  have bA : Below w.heap.size w (w.alloc (.cells #[.int .i64 x.src, .int .i64 x.seq, .string x.rc.key, .slice A n c, sl] 35)) := (Below.refl _ _).alloc (Nat.le_refl _) _
  have kA := heap_alloc_new w (.cells #[.int .i64 x.src, .int .i64 x.seq, .string x.rc.key, .slice A n c, sl] 35)
  have kF := (bA.block _ (lt_of_block hf)).trans hf
  have X0 := Ext.cell (row_cell (j := 0) kA rfl)
  have X1 := Ext.cell (row_cell (j := 1) kA rfl)
  have X2 := Ext.cell (row_cell (j := 2) kA rfl)
  have X3 := Ext.cell (row_cell (j := 3) kA rfl)
  have X4 := Ext.cell (row_cell (j := 4) kA rfl)
  have Y0 := Ext.cell (row_cell (j := 0) kF rfl)
  have Y1 := Ext.cell (row_cell (j := 1) kF rfl)
  have Y2 := Ext.cell (row_cell (j := 2) kF rfl)
  have Y3 := Ext.cell (row_cell (j := 3) kF rfl)
  have Y4 := Ext.cell (row_cell (j := 4) kF rfl)
  have C1 := Lib.hid (fun z : Ext (w.alloc (.cells #[.int .i64 x.src, .int .i64 x.seq, .string x.rc.key, .slice A n c, sl] 35)) => dotF_any z.w x A n c sl ((hv.below bA).below z.below) h1)
  have C2 := Lib.hid (fun z : Ext (w.alloc (.cells #[.int .i64 x.src, .int .i64 x.seq, .string x.rc.key, .slice A n c, sl] 35)) => dotF_any z.w f Af nf cf slf ((hvf.below bA).below z.below) h1f)
  have HB := Lib.hid bA
  obtain ⟨bb, hbb⟩ : ∃ bb, decide (x.ver.s = f.ver.s ∧ x.ver.n = f.ver.n) = bb := ⟨_, rfl⟩
  have hE : sameDot f x = bb := hbb
  have q1 := eq_dot x.ver.s x.ver.n f.ver.s f.ver.n
  rw [hbb] at q1
  rw [hE]
  clear hf hvf h1f hv h1 bA kA kF hbb hE
  go_enter Try.func35, Try.ntmps35
  go_wp2_with fail
  refine wp_region_ext (by kernel_rfl) (by kernel_rfl) ?_
  repeat (go_big_quiet_step (first
    | (go_at_call 33; with_reducible exact Calls.ext_of (C1.out _))
    | (go_at_call 33; with_reducible exact Calls.ext_of (C2.out _))))
  refine wpQuiet_nil ?_
  intro w4 hw4
  have HE := Lib.hid (HB.out.trans ((ext_end hw4).mono HB.out.size))
  clear hw4 X0 X1 X2 X3 X4 Y0 Y1 Y2 Y3 Y4 C1 C2 q1
  go_wp2
  go_ret
  exact ⟨rfl, HE.out⟩
end Go.Proofs.Ytilagblpamhmkaa
