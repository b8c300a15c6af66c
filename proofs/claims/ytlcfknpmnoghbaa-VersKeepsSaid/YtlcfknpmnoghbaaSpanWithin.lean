/-
  span.Within and firthref03.Within: one set within another one.
-/
import Derived.Test.YtlcfknpmnoghbaaSpanRefJoin
import Derived.Laws.StructEq
namespace Go.Proofs.Ytlcfknpmnoghbaa
open Go.RowKit
set_option linter.unusedVariables false

theorem covS_mk {x1 x2 x3 y1 y2 y3 : Int} (h1 : x1 = y1) (h2 : y2 ≤ x2) (h3 : x3 ≤ y3) : covS (y1, y2, y3) (x1, x2, x3) := ⟨h1, h2, h3⟩
theorem covS_le {x1 x2 x3 y1 y2 y3 : Int} (h : covS (y1, y2, y3) (x1, x2, x3)) : x1 = y1 ∧ y2 ≤ x2 ∧ x3 ≤ y3 := h
theorem found_hit {b : List Sp} {x y : Sp} {k : Nat} (hy : b[k]? = some y) (hc : covS y x) : foundTo b x (k + 1) = true := by rw [foundTo_step hy, decide_eq_true hc, Bool.or_true]
theorem found_miss {b : List Sp} {x y : Sp} {k : Nat} (hy : b[k]? = some y) (hf : foundTo b x k = false) (hc : ¬ covS y x) : foundTo b x (k + 1) = false := by rw [foundTo_step hy, decide_eq_false hc, hf]; rfl
theorem found_keep {b : List Sp} {x y : Sp} {k : Nat} (hy : b[k]? = some y) (hf : foundTo b x k = true) : foundTo b x (k + 1) = true := by rw [foundTo_step hy, hf]; rfl


set_option maxHeartbeats 2000000 in
set_option maxRecDepth 100000 in
theorem refWithin_any (A1 A2 : Option Addr) (n1 n2 c1 c2 : Nat) (l1 l2 : List Sp) (w : World) (h1 : SlS w A1 n1 l1) (h2 : SlS w A2 n2 l2) (hn1 : n1 ≤ 140737488351232) (hn2 : n2 ≤ 140737488351232) :
    Calls Try.prog 41 #[.slice A1 n1 c1, .slice A2 n2 c2] w fun e w' => e = .returned (.bool (withinS l1 l2)) ∧ Below w.heap.size w w' := by
  have e1 := h1.len
  have e2 := h2.len
  have C1 := refRightS_any A1 n1 c1 l1 w h1 hn1
  have C2 := fun W (h : SlS W A2 n2 l2) => refRightS_any A2 n2 c2 l2 W h hn2
  cases hr1 : rightS l1
  · have HF := Lib.hid (withinS_left (b := l2) hr1)
    rw [hr1] at C1
    have D1 := Lib.hid C1
    clear C1 C2 hr1
    go_enter Try.func41, Try.ntmps41
    go_wp2_with fail
    refine D1.out.mono ?_
    rintro e w1 ⟨rfl, b1⟩
    go_wp2
    go_ret
    exact ⟨retb HF.out, b1⟩
  · cases hr2 : rightS l2
    · have HF := Lib.hid (withinS_right (a := l1) hr2)
      rw [hr1] at C1
      simp only [hr2] at C2
      have D1 := Lib.hid C1
      have D2 := Lib.hid C2
      clear C1 C2 hr1 hr2
      go_enter Try.func41, Try.ntmps41
      go_wp2_with fail
      refine D1.out.mono ?_
      rintro e w1 ⟨rfl, b1⟩
      have D3 := Lib.hid (D2.out w1 (Sl.below h2 b1))
      go_wp2_with fail
      refine D3.out.mono ?_
      rintro e w2 ⟨rfl, b2⟩
      go_wp2
      go_ret
      exact ⟨retb HF.out, b1.trans (b2.mono b1.size)⟩
    · have HR1 := Lib.hid hr1
      have HR2 := Lib.hid hr2
      have N2 := rightS_true.1 hr2
      have l2n := N2.2
      have M2 := Lib.hid N2.1
      have M1 := Lib.hid (rightS_true.1 hr1).1
      rw [hr1] at C1
      simp only [hr2] at C2
      have D1 := Lib.hid C1
      have D2 := Lib.hid C2
      clear C1 C2 hr1 hr2 N2
      go_enter Try.func41, Try.ntmps41
      go_wp2_with fail
      refine D1.out.mono ?_
      rintro e w1 ⟨rfl, b1⟩
      have D3 := Lib.hid (D2.out w1 (Sl.below h2 b1))
      go_wp2_with fail
      refine D3.out.mono ?_
      rintro e w2 ⟨rfl, b2⟩
      have B2 := b1.trans (b2.mono b1.size)
      clear D1 D2 D3 b1 b2
      go_wp2
      go_loopw [5] (fun i wr => ∃ (k : Nat), i = .int .i64 (k : Int) ∧ k ≤ n1 ∧ Hid (WTo l1 l2 k) ∧ Below w.heap.size w wr) (fun i _ => n1 - (intOf i).toNat)
      case atStart => exact ⟨0, rfl, Nat.zero_le _, WTo.start l1 l2, B2⟩
      case round =>
        obtain ⟨k, rfl, hk, HW, hbel⟩ := hrel
        have hsz := hbel.size
        by_cases hlt : k < n1
        · obtain ⟨b, off, x1, x2, x3, rfl, hx, hc0, hc1, hc2⟩ := SlS.at_ (Sl.below h1 hbel) hlt
          have Hx := Lib.hid hx
          have ho := M1.out.1 _ (List.mem_of_getElem? hx)
          have S2 := Sl.below h2 hbel
          have HP := Lib.hid (put_any A2 n2 c2 l2 x1 x2 x3 wr S2 (by omega) M2.out ho)
          have HQ := Lib.hid (put_same M2.out ho)
          clear hx ho
          go_wp2_with fail
          refine HP.out.mono ?_
          rintro e w4 ⟨A4, n4, c4, rfl, s4, hc4, -, b4⟩
          have S4 := Sl.below S2 b4
          have R2 := hbel.trans (b4.mono hsz)
          have l4 := SlS.len s4
          have pl := putS_len l2 (x1, x2, x3)
          have n4' : n4 ≤ 140737488351232 := by omega
          have HS := Lib.hid (sameS_any A4 A2 n4 n2 c4 c2 (putS l2 (x1, x2, x3)) l2 w4 s4 S4 n4')
          clear hbel b4 s4 HP l4 pl
          cases hq : (putS l2 (x1, x2, x3) == l2)
          · have HF := Lib.hid (withinS_no HR2.out (List.mem_of_getElem? Hx.out) (fun y hy hc => by
              rw [beq_eq_false_iff_ne] at hq
              exact hq (HQ.out.2 ⟨y, hy, hc⟩)))
            have HS1 := HS.out
            rw [hq] at HS1
            have HS2 := Lib.hid HS1
            clear hq HS1
            go_wp2_with fail
            refine HS2.out.mono ?_
            rintro e w5 ⟨rfl, d, rfl⟩
            go_wp2
            go_ret
            exact ⟨retb HF.out, below_drewN R2 d⟩
          · have HN := Lib.hid (HW.out.step Hx.out (HQ.out.1 (by simpa using hq)))
            have HS1 := HS.out
            rw [hq] at HS1
            have HS2 := Lib.hid HS1
            clear hq HS1
            go_wp2_with fail
            refine HS2.out.mono ?_
            rintro e w5 ⟨rfl, d, rfl⟩
            go_wp2
            go_roundw
            case rel => exact ⟨k + 1, by go_num, by omega, HN, below_drewN R2 d⟩
            case measure => simp [intOf]; omega
        · obtain rfl : k = n1 := by omega
          have HF := Lib.hid (HW.out.all e1 HR1.out HR2.out)
          go_wp2
          go_ret
          exact ⟨retb HF.out, hbel⟩
end Go.Proofs.Ytlcfknpmnoghbaa
