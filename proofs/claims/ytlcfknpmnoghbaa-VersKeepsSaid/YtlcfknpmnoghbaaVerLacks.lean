/-
  Does one set lack something of another? And the statements' own look at whether the program answers.
-/
import Derived.Test.YtlcfknpmnoghbaaVerShown
import Derived.Laws.ResultCell
namespace Go.Proofs.Ytlcfknpmnoghbaa
open Go.RowKit
set_option linter.unusedVariables false

theorem mrg_cases (a b : List Vr) : (mrgE a b = 0 ∧ mergedL a b = joinV a b ∧ (joinV a b).length ≤ 512 ∧ RightV a ∧ RightV b ∧ mrgT a b = false) ∨ (mrgE a b ≠ 0 ∧ mergedL a b = []) := by
  cases ha : rightV a
  · have h := mrg_no (a := a) (b := b) (by rw [ha]; rfl)
    exact .inr ⟨by rw [h.1]; decide, h.2⟩
  · cases hb : rightV b
    · have h := mrg_no (a := a) (b := b) (by rw [hb]; simp)
      exact .inr ⟨by rw [h.1]; decide, h.2⟩
    · cases ht : mrgT a b
      · by_cases hl : 512 < (joinV a b).length
        · have h := mrg_long ha hb ht hl
          exact .inr ⟨by rw [h.1]; decide, h.2⟩
        · have h := mrg_ok ha hb ht hl
          exact .inl ⟨h.1, h.2, by omega, rightV_true.1 ha, rightV_true.1 hb, rfl⟩
      · have h := mrg_twin ha hb ht
        exact .inr ⟨by rw [h.1]; decide, h.2⟩
theorem merged_len (a b : List Vr) : (mergedL a b).length ≤ 512 := by
  rcases mrg_cases a b with h | h
  · rw [h.2.1]; exact h.2.2.1
  · rw [h.2]; simp
noncomputable def lacksB (a b : List Vr) : Bool := (mrgE a b == 0) && !lEq (mergedL a b) a
set_option maxHeartbeats 1000000 in
set_option maxRecDepth 100000 in
theorem verLacks_any (A1 A2 : Option Addr) (n1 n2 c1 c2 : Nat) (a b : List Vr) (w : World) (h1 : SlV w A1 n1 a) (h2 : SlV w A2 n2 b) (hn1 : n1 ≤ 140737488351232) (hn2 : n2 ≤ 140737488351232) :
    Calls Try.prog 18 #[.slice A1 n1 c1, .slice A2 n2 c2] w fun e w' => e = .returned (.bool (lacksB a b)) ∧ Below w.heap.size w w' := by
  have HC := Lib.hid (merge_any A1 A2 n1 n2 c1 c2 a b w h1 h2 hn1 hn2)
  have H1 := Lib.hid h1
  clear h1 h2
  go_enter Try.func18, Try.ntmps18
  go_wp2_with fail
  refine HC.out.mono ?_
  intro e w1 hv
  obtain ⟨A, n, c, rows, rfl, own, hrows, hnc, b1⟩ := hv; have hs := own.slv; rw [hrows] at hs; clear own hrows
  have hlen := hs.len
  have hml := merged_len a b
  rw [hlen] at hml
  have HD := Lib.hid (show lacksB a b = ((mrgE a b == 0) && !lEq (mergedL a b) a) from rfl)
  have HS := Lib.hid (verSameV_any A A1 n n1 c c1 (mergedL a b) a w1 hs (H1.out.below b1) (by omega) hn1)
  have HB := Lib.hid b1
  generalize hx : mrgE a b = x at *
  clear hs b1 HC hx hlen
  by_cases hx0 : x = 0
  · subst hx0
    go_wp2_with fail
    refine HS.out.mono ?_
    rintro e w2 ⟨rfl, b2⟩
    have HB2 := Lib.hid (HB.out.trans (b2.mono HB.out.size))
    clear b2 HS
    go_wp2
    go_ret
    exact ⟨retb (by rw [HD.out]; rfl), HB2.out⟩
  · have hx1 : (x == 0) = false := beq_eq_false_iff_ne.2 hx0
    go_wp2
    go_ret
    exact ⟨retb (by rw [HD.out, hx1]; rfl), HB.out⟩
set_option maxHeartbeats 1000000 in
set_option maxRecDepth 100000 in
theorem refLacks_any (A1 A2 : Option Addr) (n1 n2 c1 c2 : Nat) (a b : List Vr) (w : World) (h1 : SlV w A1 n1 a) (h2 : SlV w A2 n2 b) (hn1 : n1 ≤ 140737488351232) (hn2 : n2 ≤ 140737488351232) :
    Calls Try.prog 19 #[.slice A1 n1 c1, .slice A2 n2 c2] w fun e w' => e = .returned (.bool (lacksB a b)) ∧ Below w.heap.size w w' := by
  have HC := Lib.hid (refMerge_any A1 A2 n1 n2 c1 c2 a b w h1 h2 hn1 hn2)
  have H1 := Lib.hid h1
  clear h1 h2
  go_enter Try.func19, Try.ntmps19
  go_wp2_with fail
  refine HC.out.mono ?_
  intro e w1 hv
  obtain ⟨A, n, c, rfl, hs, hnc, b1⟩ := hv
  have hlen := hs.len
  have hml := merged_len a b
  rw [hlen] at hml
  have HD := Lib.hid (show lacksB a b = ((mrgE a b == 0) && !lEq (mergedL a b) a) from rfl)
  have HS := Lib.hid (refSameV_any A A1 n n1 c c1 (mergedL a b) a w1 hs (H1.out.below b1) (by omega) hn1)
  have HB := Lib.hid b1
  generalize hx : mrgE a b = x at *
  clear hs b1 HC hx hlen
  by_cases hx0 : x = 0
  · subst hx0
    go_wp2_with fail
    refine HS.out.mono ?_
    rintro e w2 ⟨rfl, b2⟩
    have HB2 := Lib.hid (HB.out.trans (b2.mono HB.out.size))
    clear b2 HS
    go_wp2
    go_ret
    exact ⟨retb (by rw [HD.out]; rfl), HB2.out⟩
  · have hx1 : (x == 0) = false := beq_eq_false_iff_ne.2 hx0
    go_wp2
    go_ret
    exact ⟨retb (by rw [HD.out, hx1]; rfl), HB.out⟩
end Go.Proofs.Ytlcfknpmnoghbaa
