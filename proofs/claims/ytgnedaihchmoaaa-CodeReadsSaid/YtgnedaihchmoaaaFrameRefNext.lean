/-
  firthref02.Next; the walk of firthlaw02.FrameNext.
-/
import Derived.Test.YtgnedaihchmoaaaFrameNext
import Derived.Deep.RegionHeld3
namespace Go.Proofs.Ytgnedaihchmoaaa
open Go.RowKit
set_option linter.unusedVariables false

/-- The frame of what is within is what stands there, just where the sum is right. -/
theorem put_sum {l : List UInt8} {at_ n k : Nat} (hr : rdNum (l.drop at_) = .ok (n, k)) (h2 : ¬ l.length < at_ + k + n + 4) :
    putF ((l.drop (at_ + k + 4)).take n) = (l.drop at_).take (k + 4 + n) ↔ le4 (sumB ((l.drop at_).take k ++ (l.drop (at_ + k + 4)).take n)) = (l.drop (at_ + k)).take 4 := by
  have hk := rdNum_ok hr
  have hb : ((l.drop (at_ + k + 4)).take n).length = n := by simp; omega
  have hp := rdNum_put hr
  have e : (l.drop at_).take (k + 4 + n) = (l.drop at_).take k ++ (l.drop (at_ + k)).take 4 ++ (l.drop (at_ + k + 4)).take n := by
    rw [show k + 4 + n = k + (4 + n) by omega, List.take_add, List.drop_drop, List.take_add, List.drop_drop, ← List.append_assoc]
  unfold putF
  rw [hb, ← hp, e, List.append_cancel_right_eq, List.append_cancel_left_eq]


theorem keepC {w w2 w4 : World} {b o n : Nat} {l : List UInt8} (hs : SlB w2 (some ⟨b, o, none⟩) n l) (q : Below w2.drew.heap.size w2.drew w4) (q2 : Below w.heap.size w w2) :
    (∀ cc, (convert 31 9 (.slice (some ⟨b, o, none⟩) n cc)).run Try.prog w4 = .ok (.string ⟨l.toArray⟩) w4) ∧ Below w.heap.size w w4 :=
  ⟨fun cc => run_convert_SlB (P := Try.prog) (show SlB w4 _ _ _ from Sl.below (Sl.drew hs) q) 31 5 9 Try.underlying31 Try.underlying5 Try.underlying9 cc, q2.drew.trans (q.mono q2.drew.size)⟩

set_option maxHeartbeats 2000000 in
set_option maxRecDepth 100000 in
theorem refNext_any (A : Option Addr) (n c at_ : Nat) (l : List UInt8) (w : World) (hs : SlB w A n l) (hc : n ≤ c) (hcap : n ≤ 140737488351232) (hat : at_ ≤ n) :
    Calls Try.prog 56 #[.slice A n c, .int .i64 (at_ : Int)] w (NextAns w (nextF l at_)) := by
  have hll := hs.len
  rcases hr : rdNum (l.drop at_) with x | ⟨m, k⟩
  · have C := Lib.hid (refNum_err hs hc hcap hat hr)
    have hx : x = 2 ∨ x = 4 := rdN_err _ _ _ _ hr
    rw [nextF_err hr]
    clear hr
    rcases hx with rfl | rfl
    all_goals
      go_enter Try.func56, Try.ntmps56
      go_wp2_with fail
      refine C.out.mono ?_
      rintro e w1 ⟨rfl, rfl⟩
      go_wp2
      go_ret3
      exact ⟨rfl, Below.refl _ _⟩
  · have C := Lib.hid (refNum_ok hs hc hcap hat hr)
    obtain ⟨k1, k9, kl, hm63, hp⟩ := rdNum_ok hr
    rw [List.length_drop] at kl
    have hkn : at_ + k ≤ n := by omega
    have HR := Lib.hid hr
    clear hr hp
    by_cases h1 : 1048576 < m
    · rw [nextF_long HR.out h1]
      go_enter Try.func56, Try.ntmps56
      go_wp2_with fail
      refine C.out.mono ?_
      rintro e w1 ⟨rfl, rfl⟩
      go_wp2
      go_ret3
      exact ⟨rfl, Below.refl _ _⟩
    · by_cases h2 : l.length < at_ + k + m + 4
      · rw [nextF_short HR.out h1 h2]
        have h2' : n < at_ + k + m + 4 := by omega
        clear h2
        go_enter Try.func56, Try.ntmps56
        go_wp2_with fail
        refine C.out.mono ?_
        rintro e w1 ⟨rfl, rfl⟩
        go_wp2
        go_ret3
        exact ⟨rfl, Below.refl _ _⟩
      · have h2' : at_ + k + m + 4 ≤ n := by omega
        have H12 := Lib.hid (And.intro h1 h2)
        obtain ⟨b, off, c0, rfl, _, _, _⟩ := hs.at_ (k := at_) (by omega)
        have P2 := hs.sub (from_ := at_ + k + 4) (m := m) (by omega)
        have ne1 : ¬ c = at_ := by omega
        clear h2 hll
        by_cases hcc : c = at_ + k + 4
        · obtain rfl : m = 0 := by omega
          subst hcc
          have P3 : SlB w (some ⟨b, off, none⟩) 0 ((l.drop (at_ + k + 4)).take 0) := by rw [List.take_zero]; exact Sl.nil _ _ _
          clear P2
          have P1 := hs.sub (from_ := at_) (m := at_ + k + 4 - at_) (by omega)
          obtain ⟨L, hL⟩ : ∃ L, L = (l.drop (at_ + k + 4)).take 0 := ⟨_, rfl⟩
          obtain ⟨R, hR⟩ : ∃ R, R = (l.drop at_).take (at_ + k + 4 - at_) := ⟨_, rfl⟩
          rw [← hL] at P3
          rw [← hR] at P1
          have HL := Lib.hid hL
          have HRR := Lib.hid hR
          have hLl : L.length ≤ 1048576 := by rw [hL, List.length_take]; omega
          clear hL hR
          go_enter Try.func56, Try.ntmps56
          go_wp2_with fail
          refine C.out.mono ?_
          rintro e w1 ⟨rfl, rfl⟩
          clear C
          have D := Lib.hid (cat_any none (some ⟨b, off, none⟩) 0 0 0 0 [] L w (Sl.nil _ _ _) P3 (by omega))
          go_wp2_with fail
          refine D.out.mono ?_
          intro e w2 h2
          rw [List.nil_append] at h2
          obtain ⟨A2, n2, c2, rfl, p2, m2, -, q2, own2⟩ := h2.read
          have e2 := p2.len
          have hn2 : n2 ≤ 1048576 := by omega
          have S2 := Sl.below P1 q2
          have z2 := q2.size
          clear D h2 P3 P1 e2
          have HC1 := Lib.hid (fun cc => run_convert_SlB (P := Try.prog) (Sl.drew S2) 31 5 9 Try.underlying31 Try.underlying5 Try.underlying9 cc)
          have HS2 := Lib.hid S2
          have Q2 := Lib.hid q2
          have HPut := Lib.hid (refPutF_any A2 n2 c2 L w2.drew p2 hn2)
          clear S2 q2
          go_wp2_with fail
          have hcvA := HC1.out
          cases hq : (putF L == R)
          · have HE := Lib.hid (nextF_sum HR.out H12.out.1 H12.out.2 (fun h => by
              have h1 := (put_sum HR.out H12.out.2).2 h
              rw [← HL.out, show k + 4 + 0 = at_ + k + 4 - at_ by omega, ← HRR.out] at h1
              rw [beq_eq_false_iff_ne] at hq
              exact hq h1))
            go_region_with (go_at_call 43; refine HPut.out.mono ?_; intro e w4 h4; obtain ⟨A4, n4, c4, rfl, p4, m4, -, q4, -⟩ := h4.read; have hcv4 := run_convert_SlB (P := Try.prog) p4 31 5 9 Try.underlying31 Try.underlying5 Try.underlying9 c4; have hS4 := keepC HS2.out q4 Q2.out; obtain ⟨hcvB, hB4⟩ := hS4; clear h4)
            all_goals go_wp2
            all_goals go_ret3
            all_goals (rw [HE.out]; exact ⟨rfl, hB4⟩)
          · have HE := Lib.hid (nextF_yes HR.out H12.out.1 H12.out.2 ((put_sum HR.out H12.out.2).1 (by
              rw [← HL.out, show k + 4 + 0 = at_ + k + 4 - at_ by omega, ← HRR.out]
              simpa using hq)))
            have HE2 : Hid (nextF l at_ = .ok (L, at_ + k + 4 + 0)) := by
              show _ = _
              rw [HE.out, HL.out]
            have HO := Lib.hid own2
            clear own2
            go_region_with (go_at_call 43; refine HPut.out.mono ?_; intro e w4 h4; obtain ⟨A4, n4, c4, rfl, p4, m4, -, q4, -⟩ := h4.read; have hcv4 := run_convert_SlB (P := Try.prog) p4 31 5 9 Try.underlying31 Try.underlying5 Try.underlying9 c4; have hS4 := keepC HS2.out q4 Q2.out; obtain ⟨hcvB, hB4⟩ := hS4; clear h4)
            all_goals go_wp2
            all_goals go_ret3
            all_goals (rw [HE2.out]; exact ⟨A2, n2, c2, rfl, Sl.below (Sl.drew p2) q4, m2, own_below (World.ownsRow.drew HO.out) q4, hB4⟩)
        · have P3 : SlB w (some ⟨b, off + (at_ + k + 4), none⟩) m ((l.drop (at_ + k + 4)).take m) := P2
          clear P2
          have P1 := hs.sub (from_ := at_) (m := at_ + k + 4 + m - at_) (by omega)
          obtain ⟨L, hL⟩ : ∃ L, L = (l.drop (at_ + k + 4)).take m := ⟨_, rfl⟩
          obtain ⟨R, hR⟩ : ∃ R, R = (l.drop at_).take (at_ + k + 4 + m - at_) := ⟨_, rfl⟩
          rw [← hL] at P3
          rw [← hR] at P1
          have HL := Lib.hid hL
          have HRR := Lib.hid hR
          have hLl : L.length ≤ 1048576 := by rw [hL, List.length_take]; omega
          clear hL hR
          go_enter Try.func56, Try.ntmps56
          go_wp2_with fail
          refine C.out.mono ?_
          rintro e w1 ⟨rfl, rfl⟩
          clear C
          have D := Lib.hid (cat_any none (some ⟨b, off + (at_ + k + 4), none⟩) 0 m 0 (c - (at_ + k + 4)) [] L w (Sl.nil _ _ _) P3 (by omega))
          go_wp2_with fail
          refine D.out.mono ?_
          intro e w2 h2
          rw [List.nil_append] at h2
          obtain ⟨A2, n2, c2, rfl, p2, m2, -, q2, own2⟩ := h2.read
          have e2 := p2.len
          have hn2 : n2 ≤ 1048576 := by omega
          have S2 := Sl.below P1 q2
          have z2 := q2.size
          clear D h2 P3 P1 e2
          have HC1 := Lib.hid (fun cc => run_convert_SlB (P := Try.prog) (Sl.drew S2) 31 5 9 Try.underlying31 Try.underlying5 Try.underlying9 cc)
          have HS2 := Lib.hid S2
          have Q2 := Lib.hid q2
          have HPut := Lib.hid (refPutF_any A2 n2 c2 L w2.drew p2 hn2)
          clear S2 q2
          go_wp2_with fail
          have hcvA := HC1.out
          cases hq : (putF L == R)
          · have HE := Lib.hid (nextF_sum HR.out H12.out.1 H12.out.2 (fun h => by
              have h1 := (put_sum HR.out H12.out.2).2 h
              rw [← HL.out, show k + 4 + m = at_ + k + 4 + m - at_ by omega, ← HRR.out] at h1
              rw [beq_eq_false_iff_ne] at hq
              exact hq h1))
            go_region_with (go_at_call 43; refine HPut.out.mono ?_; intro e w4 h4; obtain ⟨A4, n4, c4, rfl, p4, m4, -, q4, -⟩ := h4.read; have hcv4 := run_convert_SlB (P := Try.prog) p4 31 5 9 Try.underlying31 Try.underlying5 Try.underlying9 c4; have hS4 := keepC HS2.out q4 Q2.out; obtain ⟨hcvB, hB4⟩ := hS4; clear h4)
            all_goals go_wp2
            all_goals go_ret3
            all_goals (rw [HE.out]; exact ⟨rfl, hB4⟩)
          · have HE := Lib.hid (nextF_yes HR.out H12.out.1 H12.out.2 ((put_sum HR.out H12.out.2).1 (by
              rw [← HL.out, show k + 4 + m = at_ + k + 4 + m - at_ by omega, ← HRR.out]
              simpa using hq)))
            have HE2 : Hid (nextF l at_ = .ok (L, at_ + k + 4 + m)) := by
              show _ = _
              rw [HE.out, HL.out]
            have HO := Lib.hid own2
            clear own2
            go_region_with (go_at_call 43; refine HPut.out.mono ?_; intro e w4 h4; obtain ⟨A4, n4, c4, rfl, p4, m4, -, q4, -⟩ := h4.read; have hcv4 := run_convert_SlB (P := Try.prog) p4 31 5 9 Try.underlying31 Try.underlying5 Try.underlying9 c4; have hS4 := keepC HS2.out q4 Q2.out; obtain ⟨hcvB, hB4⟩ := hS4; clear h4)
            all_goals go_wp2
            all_goals go_ret3
            all_goals (rw [HE2.out]; exact ⟨A2, n2, c2, rfl, Sl.below (Sl.drew p2) q4, m2, own_below (World.ownsRow.drew HO.out) q4, hB4⟩)

end Go.Proofs.Ytgnedaihchmoaaa
