/-
  firth/inbox: Clean's function: is a write covered? Then it is told.
-/
import Derived.Test.YtilagblpamhmkaaInboxReady
import Derived.Test.YtilagblpamhmkaaMB
namespace Go.Proofs.Ytilagblpamhmkaa
open Go.RowKit
set_option linter.unusedVariables false

/-- What is told so far. -/
def OutS (w : World) (B ob : Nat) (rows : List RFa) : Prop :=
  ∃ (A : Option Addr) (n c : Nat), w.heap[ob]? = some (.cells #[.slice A n c] 22 (0, 0)) ∧ w.ownsRow B 35 5 (.slice A n c) n (rows.flatMap fV1)
def outR (v : List Int) (rows : List RFa) (y : RFa) : List RFa := if covB v y.1 = true then rows ++ [y] else rows
theorem OutS.below {w w' : World} {B ob : Nat} {rows : List RFa} (h : OutS w B ob rows) (b : Below w.heap.size w w') : OutS w' B ob rows := by
  obtain ⟨A, n, c, h1, h2⟩ := h
  exact ⟨A, n, c, (b.block _ (lt_of_block h1)).trans h1, own_below h2 b⟩
theorem OutS.len {w : World} {B : Nat} {rows : List RFa} {A : Option Addr} {n c : Nat} (h2 : w.ownsRow B 35 5 (.slice A n c) n (rows.flatMap fV1)) : rows.length = n := by
  have := h2.1
  rw [flat_len fV1_len] at this
  omega
/-- What is younger than the told row stays. -/
def StayS (w : World) (ob : Nat) (w' : World) : Prop :=
  ∀ S, S ≤ w.heap.size → ob < S → (∀ A n c q, w.heap[ob]? = some (.cells #[.slice A n c] 22 (0, 0)) → (Value.slice A n c).ownBlock = some q → q < S) → ∀ b, S ≤ b → b < w.heap.size → w'.heap[b]? = w.heap[b]?
theorem StayS.of_below {w w' : World} {ob : Nat} (h : Below w.heap.size w w') : StayS w ob w' := fun S _ _ _ b _ hb => h.block b hb
set_option maxHeartbeats 4000000 in
set_option maxRecDepth 100000 in
theorem clean1_any (w : World) (v : List Int) (y : RFa) (rows : List RFa) (B ab ob : Nat) (Av : Option Addr) (nv cv : Nat) (hab : w.heap[ab]? = some (.cells #[.slice Av nv cv] 23 (0, 0))) (hsv : SlI w Av nv v) (hnv : nv ≤ 140737488351232) (hv : SlV w y.2.1.1 y.2.1.2.1 y.1.rc.vers) (h1 : y.1.rc.vers.length = 1) (ho : OutS w B ob rows) (hB : ob < B) (hBw : B ≤ w.heap.size) (hl : (rows.length + 1) * 80 ≤ 140737488355328) :
    Calls Try.prog 46 #[.agg #[.int .i64 y.1.src, .int .i64 y.1.seq, .string y.1.rc.key, .slice y.2.1.1 y.2.1.2.1 y.2.1.2.2, .slice y.2.2.1 y.2.2.2.1 y.2.2.2.2], .pointer (some ⟨ab, 0, none⟩), .pointer (some ⟨ob, 0, none⟩)] w fun e w' => e = .returned (.bool (covB v y.1)) ∧ OutS w' B ob (outR v rows y) ∧ Fr (fun b => b = ob ∨ B ≤ b) w w' ∧ StayS w ob w' := by
  obtain ⟨i0, hi, hz0, hz1, hz2⟩ := info_parts Try.infoFarD
  obtain ⟨x, ⟨A, n, c⟩, A2, n2, c2⟩ := y
  simp only at hv h1 ⊢
  have bA : Below w.heap.size w (w.alloc (.cells #[.int .i64 x.src, .int .i64 x.seq, .string x.rc.key, .slice A n c, .slice A2 n2 c2] 35)) := (Below.refl _ _).alloc (Nat.le_refl _) _
  have kA := heap_alloc_new w (.cells #[.int .i64 x.src, .int .i64 x.seq, .string x.rc.key, .slice A n c, .slice A2 n2 c2] 35)
  have kB := (bA.block _ (lt_of_block hab)).trans hab
  have hs1 : (w.alloc (.cells #[.int .i64 x.src, .int .i64 x.seq, .string x.rc.key, .slice A n c, .slice A2 n2 c2] 35)).heap.size = w.heap.size + 1 := by simp
  obtain ⟨W1, hW1⟩ : ∃ W1, w.alloc (.cells #[.int .i64 x.src, .int .i64 x.seq, .string x.rc.key, .slice A n c, .slice A2 n2 c2] 35) = W1 := ⟨_, rfl⟩
  rw [hW1] at bA kA kB hs1
  have hsv1 : SlI W1 Av nv v := Sl.below hsv bA
  have hv1 := hv.below bA
  have ho1 := ho.below bA
  have X0 := Ext.cell (row_cell (j := 0) kA rfl)
  have X1 := Ext.cell (row_cell (j := 1) kA rfl)
  have X2 := Ext.cell (row_cell (j := 2) kA rfl)
  have X3 := Ext.cell (row_cell (j := 3) kA rfl)
  have X4 := Ext.cell (row_cell (j := 4) kA rfl)
  have X5 := Ext.cell (row_cell (j := 0) kB rfl)
  obtain ⟨_, _, _, _, _, -, -, -, -, -, hvr⟩ := ver_at hv1 h1
  have hwf := (bounds_i64 hvr.wf.1).1
  have C1 := Lib.hid (fun z : Ext W1 => dotF_any z.w x A n c (.slice A2 n2 c2) (hv1.below z.below) h1)
  have C2 := Lib.hid (fun z : Ext W1 => covers_any Av nv cv v x.ver.s x.ver.n z.w (Sl.below hsv1 z.below) hnv hwf)
  have HB := Lib.hid bA
  have HO := Lib.hid ho1
  have HK := Lib.hid kA
  have HW := Lib.hid hW1
  obtain ⟨b, hb⟩ : ∃ b, covB v x = b := ⟨_, rfl⟩
  have hb' : coversB v x.ver.s x.ver.n = b := hb
  rw [hb'] at C2
  have HR := Lib.hid (show outR v rows (x, (A, n, c), A2, n2, c2) = if b = true then rows ++ [(x, (A, n, c), A2, n2, c2)] else rows from by unfold outR; rw [← hb])
  rw [hb]
  clear bA kA kB hab hsv hv ho hsv1 hv1 ho1 hvr hwf hW1 h1 hb hb'
  go_enter Try.func46, Try.ntmps46
  go_wp2_with fail
  rw [HW.out]
  refine wp_region_ext (by kernel_rfl) (by kernel_rfl) ?_
  repeat (go_big_quiet_step (first
    | (go_at_call 33; with_reducible exact Calls.ext_of (C1.out _))
    | (go_at_call 32; with_reducible exact Calls.ext_of (C2.out _)) | fail))
  refine wpQuiet_nil ?_
  intro w6 hw6
  have hb6 := ext_end hw6
  have k6 := (hb6.block _ (by omega)).trans HK.out
  have x0 := row_cell (j := 0) k6 rfl
  have x1 := row_cell (j := 1) k6 rfl
  have x2 := row_cell (j := 2) k6 rfl
  have x3 := row_cell (j := 3) k6 rfl
  have x4 := row_cell (j := 4) k6 rfl
  have HB6 := Lib.hid (HB.out.trans (hb6.mono HB.out.size))
  obtain ⟨Ao, no, co, ho0, own0⟩ := HO.out
  have ho := (hb6.block _ (lt_of_block ho0)).trans ho0
  have own := own_below own0 hb6
  have HO0 := Lib.hid (show w.heap[ob]? = some (.cells #[.slice Ao no co] 22 (0, 0)) from (HB.out.block ob (by omega)).symm.trans ho0)
  clear ho0 own0
  have hol := OutS.len own
  have hs6 := hb6.size
  clear hw6 X0 X1 X2 X3 X4 X5 C1 C2 hb6 k6
  cases b
  · have HE := Lib.hid (show OutS w6 B ob (outR v rows (x, (A, n, c), A2, n2, c2)) ∧ Fr (fun b => b = ob ∨ B ≤ b) w w6 ∧ StayS w ob w6 from by rw [HR.out]; exact ⟨⟨Ao, no, co, ho, own⟩, Fr.of_below HB6.out, StayS.of_below HB6.out⟩)
    clear ho own
    go_wp2
    go_ret
    exact ⟨rfl, HE.out⟩
  · have o0 := row_cell (j := 0) ho rfl
    have HO6 := Lib.hid own
    have HH := Lib.hid ho
    have hob := lt_of_block ho
    clear ho own
    go_wp2_with (first | (at_builtin; refine wpList_append_sl _ rfl (.tmp 11) (.tmp 13) 22 rfl (B) 35 i0 (.agg #[.int .i64 0, .int .i64 0, .string ⟨#[]⟩, .slice none 0 0, .slice none 0 0]) 5 80 Try.underlying22 hi hz0 hz1 hz2 rfl (by decide) (.slice Ao no co) (no) (rows.flatMap fV1) rfl (HO6.out.alloc _) (some ⟨w6.heap.size, 0, none⟩) (1) (1) (fV1 (x, (A, n, c), (A2, n2, c2))) rfl (sl_lit _ _ _ _ 1 5 _ rfl rfl rfl) (fV1_one _) (by unfold maxLen; omega) (by omega) (by simp; omega) ?_) | fail)
    intro v4 w4 own4 g4 hv4
    obtain ⟨A4, c4, rfl, -, -⟩ := own_slice own4
    have hrow : ∀ q, (Value.slice Ao no co).ownBlock = some q → B ≤ q := fun q hq => (HO6.out.lt q hq).1
    have k4 : w4.heap[ob]? = some (.cells #[.slice Ao no co] 22 (0, 0)) := ((Fr.of_grown g4).block _ (by simp; omega) (fun e => by have := hrow _ e.symm; omega)).trans ((Below.heap_alloc _ _ ob hob).trans HH.out)
    have y0 := row_cell (j := 0) k4 rfl
    have f0 := frozen_of_row w4 ob 0 _ _ k4
    have F4 : Fr (fun b => b = ob ∨ B ≤ b) w (w4.setCell ⟨ob, 0, none⟩ (.slice A4 (no + 1) c4)) :=
      (((Fr.of_below HB6.out).trans (Fr.alloc (fun _ => False) _ _) (fun _ h => h.elim)).trans (Fr.of_grown g4) (fun i hi => .inl (.inr (hrow i hi.symm)))).trans (Fr.set w4 ⟨ob, 0, none⟩ _) (fun i hi => .inl (.inl hi))
    have HE := Lib.hid (show OutS (w4.setCell ⟨ob, 0, none⟩ (.slice A4 (no + 1) c4)) B ob (outR v rows (x, (A, n, c), A2, n2, c2)) ∧ Fr (fun b => b = ob ∨ B ≤ b) w (w4.setCell ⟨ob, 0, none⟩ (.slice A4 (no + 1) c4)) ∧ StayS w ob (w4.setCell ⟨ob, 0, none⟩ (.slice A4 (no + 1) c4)) from by
      rw [HR.out, if_pos trivial]
      refine ⟨⟨A4, no + 1, c4, by rw [heap_setCell_same w4 ob 0 _ _ _ k4]; rfl, ?_⟩, F4, ?_⟩
      rotate_left
      · intro S hS hoS hq b hb1 hb2
        rw [Below.heap_setCell w4 ⟨ob, 0, none⟩ _ b (by simp; omega), (Fr.of_grown g4).block b (by simp; omega) (fun e => by have := hq _ _ _ b HO0.out e.symm; omega), Below.heap_alloc _ _ b (by omega)]
        exact HB6.out.block b hb2
      rw [List.flatMap_append]
      exact ownsRow_setCell_other (by simpa using own4) (a := ⟨ob, 0, none⟩) (fun e => by have := (own4.lt _ e).1; simp at this; omega) _)
    clear own4 g4 hv4 k4 F4 hrow
    go_wp2
    go_ret
    exact ⟨rfl, HE.out⟩
end Go.Proofs.Ytilagblpamhmkaa
