/-
  firthref02.All and Same: their walks.
-/
import Derived.Test.YtoeeiancbiaajaaFrameAllWalk
import Derived.Test.YtoeeiancbiaajaaFrameRefNext
import Derived.Deep.QuietTactic
import Derived.BigQuiet
namespace Go.Proofs.Ytoeeiancbiaajaa
open Go.RowKit
set_option linter.unusedVariables false

set_option maxHeartbeats 1000000 in
set_option maxRecDepth 100000 in
theorem refAll_any (A : Option Addr) (len cap : Nat) (b : List UInt8) (w : World) (hS : SlB w A len b) (hc : len ≤ cap) (hlen : len ≤ 1099511627776) :
    Calls Try.prog 18 #[.slice A len cap] w (AllAns w b) := by
  obtain ⟨i0, hi, hz0, hz1, hz2⟩ := info_parts Try.infoBytes
  have hbl := hS.len
  go_enter Try.func18, Try.ntmps18
  go_wp2
  go_loopw [5, 6] (fun v i wr => ∃ (k : Nat) (pre : List Fr), i = .int .i64 (k : Int) ∧ Went b pre k ∧ wr.ownsRow w.heap.size 22 1 v pre.length (pre.map Fr.v) ∧ (∀ x, x ∈ pre → x.n ≤ x.c ∧ wr.ownsRow w.heap.size 5 1 x.v x.n (bsV x.l)) ∧ Below w.heap.size w wr) (fun _ i _ => len - (intOf i).toNat)
  case atStart => exact ⟨0, [], rfl, .nil, World.ownsRow_nil _ _ _ _, by simp, Below.refl _ _⟩
  case round =>
    obtain ⟨k, pre, rfl, hw, hrow, hall, hB⟩ := hrel
    have hkl := hw.le
    have y1 := hB.size
    by_cases hlt : k < len
    · have C1 : Calls Try.prog 16 #[.slice A len cap, .int .i64 (k : Int)] wr (NextAns wr (nextF b k)) := refNext_any A len cap k b wr (Sl.below hS hB) hc (by omega) (by omega)
      rcases hr : nextF b k with x | ⟨bx, en⟩
      · rw [hr] at C1
        have hx : (x != 0) = true := by simpa using nextF_ne hr
        have C1 := Lib.hid C1
        have HR := Lib.hid hr
        clear hr
        go_wp2_with fail
        refine C1.out.mono ?_
        rintro e w2 ⟨rfl, b2⟩
        obtain ⟨Ao, co, rfl, hco, -⟩ := own_slice hrow
        go_wp2
        go_ret3
        exact ⟨pre, k, x, Ao, pre.length, co, ⟨hw, .inr ⟨by omega, HR.out⟩⟩, rfl, slbb_of_rows (own_below hrow b2) (fun y hy => ⟨(hall y hy).1, own_below (hall y hy).2 b2⟩) hw.short, hco, hB.trans (b2.mono y1)⟩
      · rw [hr] at C1
        have hgr := nextF_grows hr
        have C1 := Lib.hid C1
        have HR := Lib.hid hr
        clear hr
        go_wp2_with fail
        refine C1.out.mono ?_
        rintro e w2 ⟨A3, n3, c3, rfl, s3, m3, o3, b3⟩
        have hrow2 := own_below hrow b3
        have hall2 : ∀ x, x ∈ pre → x.n ≤ x.c ∧ w2.ownsRow w.heap.size 5 1 x.v x.n (bsV x.l) := fun y hy => ⟨(hall y hy).1, own_below (hall y hy).2 b3⟩
        have o3' := own_lower o3 y1
        have B2 := hB.trans (b3.mono y1)
        have y2 := B2.size
        clear C1 hrow hall s3 o3 hB b3
        go_wp2_with (at_builtin; refine wpList_append_own _ rfl _ _ 38 rfl (w.heap.size) 22 i0 (.slice none 0 0) 1 24 Try.underlying38 hi hz0 hz1 hz2 rfl (by decide) _ _ _ rfl (World.ownsRow.alloc hrow2 _) ⟨(w2).heap.size, 0, none⟩ 1 1 _ rfl rfl (cell_one_new _ _ _) (by intro u hu; simp at hu; subst hu; rfl) (by unfold maxLen; omega) (by omega) (by simp; omega) ?_)
        intro v' w3 own3 g3 _
        have B3 := below_push B2 hrow2 g3 y2 (Nat.le_refl _)
        have key : ∀ y : Fr, w2.ownsRow w.heap.size 5 1 y.v y.n (bsV y.l) → w3.ownsRow w.heap.size 5 1 y.v y.n (bsV y.l) := fun y hy => (hy.alloc _).kept g3 (own_ne hy hrow2 (by decide))
        have W3 : Went b (pre ++ [⟨A3, n3, c3, bx, en⟩]) en := Went.snoc (x := ⟨A3, n3, c3, bx, en⟩) hw (by omega) HR.out
        have R3 : w3.ownsRow w.heap.size 22 1 v' (pre ++ [(⟨A3, n3, c3, bx, en⟩ : Fr)]).length ((pre ++ [(⟨A3, n3, c3, bx, en⟩ : Fr)]).map Fr.v) := by
          rw [List.length_append, List.map_append]
          exact own3
        have A3' : ∀ x, x ∈ pre ++ [(⟨A3, n3, c3, bx, en⟩ : Fr)] → x.n ≤ x.c ∧ w3.ownsRow w.heap.size 5 1 x.v x.n (bsV x.l) := fun y hy => by
          rcases List.mem_append.1 hy with h | h
          · exact ⟨(hall2 y h).1, key y (hall2 y h).2⟩
          · obtain rfl := List.mem_singleton.1 h
            exact ⟨m3, key _ o3'⟩
        clear own3 g3 hall2 hrow2 key o3'
        go_wp2
        go_roundw
        case rel => exact ⟨en, _, rfl, W3, R3, A3', B3⟩
        case measure => simp [intOf]; omega
    · obtain ⟨Ao, co, rfl, hco, -⟩ := own_slice hrow
      go_wp2
      go_ret3
      exact ⟨pre, k, 0, Ao, pre.length, co, ⟨hw, .inl ⟨by omega, rfl⟩⟩, rfl, slbb_of_rows hrow hall hw.short, hco, hB⟩
end Go.Proofs.Ytoeeiancbiaajaa
