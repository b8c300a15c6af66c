/-
  firthlaw18.lists of lists that are the same.
-/
import Derived.Test.YtilagblpamhmkaaInboxRows
namespace Go.Proofs.Ytilagblpamhmkaa
open Go.RowKit
set_option linter.unusedVariables false

set_option maxHeartbeats 4000000 in
set_option maxRecDepth 100000 in
theorem lists_true (w : World) (A : Option Addr) (n c : Nat) (rows : List RFa) (B : Option Addr) (m d : Nat) (rows' : List RFa) (h : FRow w A n rows) (h' : FRow w B m rows') (he : rows'.map (·.1) = rows.map (·.1)) (hn : n ≤ 140737488351232) :
    Calls Try.prog 26 #[.slice A n c, .slice B m d] w (ValE w (.bool true)) := by
  have hl := h.len
  have hl' := h'.len
  obtain rfl : m = n := by have := congrArg List.length he; rw [List.length_map, List.length_map] at this; omega
  have H1 := Lib.hid h
  have H2 := Lib.hid h'
  have HE := Lib.hid he
  have HL := Lib.hid hl
  clear h h' he hl hl'
  go_enter Try.func26, Try.ntmps26
  go_wp2
  go_loopw [5] (fun t wr => ∃ k : Nat, t = .int .i64 (k : Int) ∧ k ≤ m ∧ Hid (Below w.heap.size w wr)) (fun t _ => m - (intOf t).toNat)
  case atStart => exact ⟨0, rfl, Nat.zero_le _, Below.refl _ _⟩
  case round =>
    obtain ⟨k, rfl, hk, HB⟩ := hrel
    by_cases hlt : k < m
    · obtain ⟨⟨f, ⟨Ax, nx, cx⟩, Ax2, nx2, cx2⟩, hx⟩ : ∃ y, rows[k]? = some y := ⟨_, List.getElem?_eq_getElem (by rw [HL.out]; exact hlt)⟩
      obtain ⟨⟨f', ⟨Ay, ny, cy⟩, Ay2, ny2, cy2⟩, hy, hff⟩ := row_get (k := k) (f := f) HE.out (by rw [List.getElem?_map, hx]; rfl)
      obtain rfl : f' = f := hff
      have fr := H1.out.below HB.out
      have fr' := H2.out.below HB.out
      obtain ⟨gx, ox, rfl, x0, x1, x2, x3, x4⟩ := fr.at_ hx
      obtain ⟨gy, oy, rfl, y0, y1, y2, y3, y4⟩ := fr'.at_ hy
      have X0 := Ext.cell x0
      have X1 := Ext.cell x1
      have X2 := Ext.cell x2
      have X3 := Ext.cell x3
      have X4 := Ext.cell x4
      have Y0 := Ext.cell y0
      have Y1 := Ext.cell y1
      have Y2 := Ext.cell y2
      have Y3 := Ext.cell y3
      have Y4 := Ext.cell y4
      have CS := Lib.hid (fun z : Ext wr => same_true z.w f' Ax nx cx Ax2 nx2 cx2 Ay ny cy Ay2 ny2 cy2 ((fr.rc _ (List.mem_of_getElem? hx)).below z.below) (Sl.below (fr.ro _ (List.mem_of_getElem? hx)) z.below) ((fr'.rc _ (List.mem_of_getElem? hy)).below z.below) (Sl.below (fr'.ro _ (List.mem_of_getElem? hy)) z.below) (fr.rl _ (List.mem_of_getElem? hx)))
      have k0 : (0 : Int) ≤ (k : Int) := by omega
      have k1 : (k : Int) < (m : Int) := by omega
      clear hx hy fr fr' x0 x1 x2 x3 x4 y0 y1 y2 y3 y4
      go_wp2_with fail
      refine wp_region_ext (by kernel_rfl) (by kernel_rfl) ?_
      repeat (go_big_quiet_step (first | (go_at_call 23; with_reducible exact Calls.ext_of (CS.out _)) | fail))
      refine wpQuiet_nil ?_
      intro w6 hw6
      have HB6 := Lib.hid (HB.out.trans ((ext_end hw6).mono HB.out.size))
      clear hw6 X0 X1 X2 X3 X4 Y0 Y1 Y2 Y3 Y4 CS
      go_wp2
      go_roundw
      case rel => exact ⟨k + 1, by go_num, by omega, HB6⟩
      case measure => simp [intOf]; omega
    · obtain rfl : k = m := by omega
      go_wp2
      go_ret
      exact ⟨rfl, HB.out⟩
end Go.Proofs.Ytilagblpamhmkaa
