/-
  The network: Parted.
-/
import Derived.Test.YtcdbpimpmhfkhaaNetSame
import Derived.Deep.RegionHeld3
namespace Go.Proofs.Ytcdbpimpmhfkhaa
open Go.RowKit
set_option linter.unusedVariables false

theorem plainElem_bool_inv {H : Type} {P : Program} {e : TypeId} (he : P.underlying e = some .bool) {v : Value} {z : DataW H × List MemPlace} (h : plainElem P e v = some z) : ∃ a, v = .bool a ∧ z = (.lit (.bool a), []) := by
  unfold plainElem at h
  rw [he] at h
  cases v <;> simp at h
  subst h
  exact ⟨_, rfl, rfl⟩
theorem Try.zeroBool (w : World) : (zeroValue 4).run Try.prog w = .ok (.bool false) w := by kernel_rfl
section
variable {w w' : World} {fp fp' : Nat → Prop} {G : NGeo} {l : List Pk} {C : K4 → Bool} {c : Cnt} {m : Nat}
theorem NetG.look (h : NetG w fp G l C c m) {k : K4} (hk : k.wf) : (Instr.lookup 56 (.map (some G.mb)) k.v false).run Try.prog w = .ok (.bool (C k)) w := by
  obtain ⟨D, hD, hA⟩ := h.map
  obtain ⟨v, ps, hrun, hv⟩ := hD.lookup Try.keyed Try.underlying56 (Try.zeroBool w) (plainElem_bool Try.underlying4 false) (key_of k hk)
  obtain ⟨a, rfl, ha⟩ := plainElem_bool_inv Try.underlying4 hv
  simp only [Prod.mk.injEq] at ha
  rw [hA.2 k hk] at ha
  have := ha.1
  injection this with this
  injection this with this
  rw [hrun, this]
theorem NetG.mcell (h : NetG w fp G l C c m) : w.cell? ⟨G.p, 1, none⟩ = some (.map (some G.mb)) := by
  obtain ⟨lv, rows, h1, _⟩ := h.ex
  exact blk_cell h1 rfl
/-- What a call leaves that answers v and makes memory of its own. -/
def NewV (w : World) (v : Value) (e : Ending) (w' : World) : Prop := e = .returned v ∧ Below w.heap.size w w'
theorem two_cells (w : World) (a b c d : Value) (t : TypeId) : ∀ wx, wx = (w.alloc (.cells #[a, b] t)).alloc (.cells #[c, d] t) →
    wx.cell? ⟨w.heap.size, 0, none⟩ = some a ∧ wx.cell? ⟨w.heap.size, 1, none⟩ = some b ∧ wx.cell? ⟨w.heap.size + 1, 0, none⟩ = some c ∧ wx.cell? ⟨w.heap.size + 1, 1, none⟩ = some d ∧ Below w.heap.size w wx := by
  rintro wx rfl
  have k1 : ((w.alloc (.cells #[a, b] t)).alloc (.cells #[c, d] t)).heap[w.heap.size]? = some (.cells #[a, b] t (0, 0)) := (Below.heap_alloc _ _ _ (by simp)).trans (heap_alloc_new w _)
  have k2 : ((w.alloc (.cells #[a, b] t)).alloc (.cells #[c, d] t)).heap[w.heap.size + 1]? = some (.cells #[c, d] t (0, 0)) := by
    have := heap_alloc_new (w.alloc (.cells #[a, b] t)) (.cells #[c, d] t)
    simpa using this
  exact ⟨blk_cell k1 rfl, blk_cell k1 rfl, blk_cell k2 rfl, blk_cell k2 rfl, ((Below.refl _ w).alloc (Nat.le_refl _) _).alloc (by simp) _⟩
set_option maxHeartbeats 2000000 in
theorem parted_any (as_ an bs bn : Int) (h : NetG w fp G l C c m) (hw : (pairK as_ an bs bn).wf) :
    Calls Try.prog 21 #[.pointer (some ⟨G.p, 0, none⟩), .agg #[.int .i64 as_, .int .i64 an], .agg #[.int .i64 bs, .int .i64 bn]] w (NewV w (.bool (C (pairK as_ an bs bn)))) := by
  obtain ⟨x0, x1, y0, y1, B0⟩ := two_cells w (.int .i64 as_) (.int .i64 an) (.int .i64 bs) (.int .i64 bn) 29 _ rfl
  have H := Lib.hid (h.below B0)
  have m0 := (h.below B0).mcell
  have HW := Lib.hid hw
  have HB := Lib.hid B0
  clear h hw B0
  go_enter Try.func21, Try.ntmps21
  go_wp2_with fail
  generalize hwb : (w.alloc (.cells #[.int .i64 as_, .int .i64 an] 29)).alloc (.cells #[.int .i64 bs, .int .i64 bn] 29) = wb at *
  clear hwb
  have HC := Lib.hid (pair_any as_ an bs bn wb.drew)
  go_region_held3 (fun w' => w'.cell? ⟨G.p, 1, none⟩ = some (.map (some G.mb)) ∧ w'.cell? ⟨w.heap.size, 0, none⟩ = some (.int .i64 as_) ∧ w'.cell? ⟨w.heap.size, 1, none⟩ = some (.int .i64 an) ∧ w'.cell? ⟨w.heap.size + 1, 0, none⟩ = some (.int .i64 bs) ∧ w'.cell? ⟨w.heap.size + 1, 1, none⟩ = some (.int .i64 bn))
    (first | exact ⟨m0, x0, x1, y0, y1⟩ | exact hS1 | assumption)
    (first | (go_at_call 30; refine HC.out.mono ?_; rintro e w1 ⟨rfl, b1⟩; have hl := (H.out.below (Below.trans ((Below.refl _ wb).drew) b1)).look HW.out; have hS1 : w1.cell? ⟨G.p, 1, none⟩ = some (.map (some G.mb)) ∧ w1.cell? ⟨w.heap.size, 0, none⟩ = some (.int .i64 as_) ∧ w1.cell? ⟨w.heap.size, 1, none⟩ = some (.int .i64 an) ∧ w1.cell? ⟨w.heap.size + 1, 0, none⟩ = some (.int .i64 bs) ∧ w1.cell? ⟨w.heap.size + 1, 1, none⟩ = some (.int .i64 bn) := ⟨(b1.cell (World.block_lt_of_cell? wb _ m0)).trans m0, (b1.cell (World.block_lt_of_cell? wb _ x0)).trans x0, (b1.cell (World.block_lt_of_cell? wb _ x1)).trans x1, (b1.cell (World.block_lt_of_cell? wb _ y0)).trans y0, (b1.cell (World.block_lt_of_cell? wb _ y1)).trans y1⟩; have HB1 := Lib.hid b1; clear b1))
  go_wp2
  go_ret
  exact ⟨rfl, HB.out.trans (((Below.refl _ wb).drew.trans HB1.out).mono HB.out.size)⟩
end
end Go.Proofs.Ytcdbpimpmhfkhaa
