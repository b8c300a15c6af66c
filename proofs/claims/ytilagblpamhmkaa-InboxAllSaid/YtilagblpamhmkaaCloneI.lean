/-
  slices.Clone of numbers: new memory.
-/
import Derived.Test.YtilagblpamhmkaaMD
import Derived.WalkSpells
namespace Go.Proofs.Ytilagblpamhmkaa
open Go.RowKit
set_option linter.unusedVariables false

theorem Try.infoInt' : (Try.prog.info? 3).map (fun i => (i.zero, i.size, i.bytes)) = some (some (.int .i64 0), 1, 8) := by kernel_rfl
/-- What a call leaves that answers new numbers. -/
def NewI (w : World) (l : List Int) (e : Ending) (w' : World) : Prop :=
  ∃ A n c, e = .returned (.slice A n c) ∧ l.length = n ∧ n ≤ c ∧ w'.ownsRow w.heap.size 3 1 (.slice A n c) n (l.map (Value.int .i64)) ∧ Below w.heap.size w w'
theorem ownEmpty' (w : World) (e : TypeId) (base g sz : Nat) (hg : g = w.heap.size) (hb : base ≤ g) : (w.alloc (.cells #[] e)).ownsRow base e sz (.slice (some ⟨g, 0, none⟩) 0 0) 0 [] := by
  subst hg
  exact World.ownsRow_lit w #[] 0 hb (by unfold maxLen; omega) (by simp)
theorem intV_one (l : List Int) : ∀ u ∈ l.map (Value.int .i64), u.oneCell' = true := by
  intro u hu
  obtain ⟨x, _, rfl⟩ := List.mem_map.1 hu
  rfl
set_option maxHeartbeats 1000000 in
theorem cloneI_any (A : Option Addr) (n c : Nat) (l : List Int) (w : World) (hs : Sl w A n 1 (l.map (Value.int .i64))) (hc : n ≤ c) (hn : n * 8 ≤ 140737488351232) :
    Calls Try.prog 54 #[.slice A n c] w (NewI w l) := by
  obtain ⟨i0, hi, hz0, hz1, hz2⟩ := info_parts Try.infoInt'
  have hll : l.length = n := by have := hs.1; rw [List.length_map] at this; omega
  rcases A with _ | ⟨b, off, sp⟩
  · obtain rfl : n = 0 := by
      rcases Nat.eq_zero_or_pos n with h0 | h0
      · exact h0
      · obtain ⟨_, _, e, _⟩ := hs.2 (by omega); cases e
    obtain rfl : l = [] := List.eq_nil_of_length_eq_zero hll
    have kc := fun W : World => Lib.run_eql_slice_nil (P := Try.prog) W 33 3 none 0 c 0 0 Try.underlying33
    go_enter Try.func54, Try.ntmps54
    go_wp2
    go_ret
    exact ⟨none, 0, 0, rfl, rfl, Nat.le_refl _, World.ownsRow_nil _ _ _ _, Below.refl _ _⟩
  · have kc := fun W : World => Lib.run_eql_slice_nil (P := Try.prog) W 33 3 (some ⟨b, off, sp⟩) n c 0 0 Try.underlying33
    have HL := Lib.hid hll
    clear hll
    go_enter Try.func54, Try.ntmps54
    go_wp2_with (first | (at_builtin; refine wpList_append_sl _ rfl (.tmp 5) (.tmp 6) 33 rfl (w.heap.size) 3 i0 (.int .i64 0) 1 8 Try.underlying33 hi hz0 hz1 hz2 rfl (by decide) (.slice (some ⟨w.heap.size, 0, none⟩) 0 0) 0 [] rfl (ownEmpty' w _ w.heap.size _ 1 rfl (Nat.le_refl _)) (some ⟨b, off, sp⟩) n c (l.map (Value.int .i64)) rfl (Sl.alloc hs _) (intV_one l) (by unfold maxLen; omega) (by omega) (by simp) ?_) | fail)
    intro v3 w3 own3 g3 _
    have B3 : Below w.heap.size w w3 := ((Below.refl _ _).alloc (Nat.le_refl _) _).grown g3 (by simp) (fun q hq => by simp [Value.ownBlock] at hq; omega)
    obtain ⟨A3, c3, rfl, h3, _⟩ := own_slice own3
    have HE := Lib.hid (And.intro h3 (And.intro own3 B3))
    clear g3 own3 h3 B3
    go_wp2
    go_ret
    exact ⟨A3, n, c3, by simp, HL.out, by simpa using HE.out.1, by simpa using HE.out.2.1, HE.out.2.2⟩
end Go.Proofs.Ytilagblpamhmkaa
