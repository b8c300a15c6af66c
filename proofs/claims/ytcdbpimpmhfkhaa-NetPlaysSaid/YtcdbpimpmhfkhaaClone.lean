/-
  slices.Clone of bytes: new memory.
-/
import Derived.Test.YtcdbpimpmhfkhaaBase
import Derived.Test.YtcdbpimpmhfkhaaProg
import Derived.WalkSpells
namespace Go.Proofs.Ytcdbpimpmhfkhaa
open Go.RowKit
set_option linter.unusedVariables false

theorem Try.infoByte : (Try.prog.info? 5).map (fun i => (i.zero, i.size, i.bytes)) = some (some (.int .u8 0), 1, 1) := by kernel_rfl
/-- What a call leaves that answers new bytes. -/
def NewB (w : World) (l : List UInt8) (e : Ending) (w' : World) : Prop :=
  ∃ A n c, e = .returned (.slice A n c) ∧ SlB w' A n l ∧ n ≤ c ∧ w'.ownsRow w.heap.size 5 1 (.slice A n c) n (bsV l) ∧ Below w.heap.size w w'
theorem ownEmpty (w : World) (e : TypeId) (base g sz : Nat) (hg : g = w.heap.size) (hb : base ≤ g) : (w.alloc (.cells #[] e)).ownsRow base e sz (.slice (some ⟨g, 0, none⟩) 0 0) 0 [] := by
  subst hg
  exact World.ownsRow_lit w #[] 0 hb (by unfold maxLen; omega) (by simp)

set_option maxHeartbeats 1000000 in
theorem clone_any (A : Option Addr) (n c : Nat) (l : List UInt8) (w : World) (hs : SlB w A n l) (hc : n ≤ c) (hn : n ≤ 140737488351232) :
    Calls Try.prog 39 #[.slice A n c] w (NewB w l) := by
  obtain ⟨i0, hi, hz0, hz1, hz2⟩ := info_parts Try.infoByte
  have hll := hs.len
  rcases A with _ | ⟨b, off, sp⟩
  · obtain rfl : n = 0 := by
      rcases Nat.eq_zero_or_pos n with h0 | h0
      · exact h0
      · obtain ⟨_, _, e, _⟩ := hs.2 (by omega); cases e
    obtain rfl : l = [] := List.eq_nil_of_length_eq_zero hll
    have kc := fun W : World => Lib.run_eql_slice_nil (P := Try.prog) W 30 5 none 0 c 0 0 Try.underlying30
    go_enter Try.func39, Try.ntmps39
    go_wp2
    go_ret
    exact ⟨none, 0, 0, rfl, Sl.nil _ _ _, Nat.le_refl _, World.ownsRow_nil _ _ _ _, Below.refl _ _⟩
  · have kc := fun W : World => Lib.run_eql_slice_nil (P := Try.prog) W 30 5 (some ⟨b, off, sp⟩) n c 0 0 Try.underlying30
    go_enter Try.func39, Try.ntmps39
    go_wp2_with (at_builtin; refine wpList_append_sl _ rfl (.tmp 5) (.tmp 6) 30 rfl (w.heap.size) 5 i0 (.int .u8 0) 1 1 Try.underlying30 hi hz0 hz1 hz2 rfl (by decide) (.slice (some ⟨w.heap.size, 0, none⟩) 0 0) (0) ([]) rfl (ownEmpty w _ w.heap.size _ 1 rfl (Nat.le_refl _)) (some ⟨b, off, sp⟩) (n) (c) (bsV l) rfl (Sl.alloc hs _) (bsV_one _) (by unfold maxLen; omega) (by omega) (by simp) ?_)
    intro v3 w3 own3 g3 _
    have B3 : Below w.heap.size w w3 := ((Below.refl _ _).alloc (Nat.le_refl _) _).grown g3 (by simp) (fun q hq => by simp [Value.ownBlock] at hq; omega)
    obtain ⟨A3, c3, rfl, h3, _⟩ := own_slice own3
    clear g3
    go_wp2
    go_ret
    exact ⟨A3, n, c3, rfl, Sl.of_own own3, h3, own3, B3⟩
end Go.Proofs.Ytcdbpimpmhfkhaa
