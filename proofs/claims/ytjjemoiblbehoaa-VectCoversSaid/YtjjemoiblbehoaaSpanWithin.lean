/-
  span.Within and firthref03.Within: one set within another one.
-/
import Derived.Test.YtjjemoiblbehoaaSpanRefJoin
import Derived.Laws.StructEq
namespace Go.Proofs.Ytjjemoiblbehoaa
open Go.RowKit
set_option linter.unusedVariables false

theorem covS_mk {x1 x2 x3 y1 y2 y3 : Int} (h1 : x1 = y1) (h2 : y2 ≤ x2) (h3 : x3 ≤ y3) : covS (y1, y2, y3) (x1, x2, x3) := ⟨h1, h2, h3⟩
theorem covS_le {x1 x2 x3 y1 y2 y3 : Int} (h : covS (y1, y2, y3) (x1, x2, x3)) : x1 = y1 ∧ y2 ≤ x2 ∧ x3 ≤ y3 := h
theorem found_hit {b : List Sp} {x y : Sp} {k : Nat} (hy : b[k]? = some y) (hc : covS y x) : foundTo b x (k + 1) = true := by rw [foundTo_step hy, decide_eq_true hc, Bool.or_true]
theorem found_miss {b : List Sp} {x y : Sp} {k : Nat} (hy : b[k]? = some y) (hf : foundTo b x k = false) (hc : ¬ covS y x) : foundTo b x (k + 1) = false := by rw [foundTo_step hy, decide_eq_false hc, hf]; rfl
theorem found_keep {b : List Sp} {x y : Sp} {k : Nat} (hy : b[k]? = some y) (hf : foundTo b x k = true) : foundTo b x (k + 1) = true := by rw [foundTo_step hy, hf]; rfl


set_option maxHeartbeats 4000000 in
set_option maxRecDepth 100000 in
theorem spanWithin_any (A1 A2 : Option Addr) (n1 n2 c1 c2 : Nat) (l1 l2 : List Sp) (w : World) (h1 : SlS w A1 n1 l1) (h2 : SlS w A2 n2 l2) (hn1 : n1 ≤ 140737488351232) (hn2 : n2 ≤ 140737488351232) :
    Calls Try.prog 33 #[.slice A1 n1 c1, .slice A2 n2 c2] w fun e w' => e = .returned (.bool (withinS l1 l2)) ∧ Below w.heap.size w w' := by
  have e1 := h1.len
  have e2 := h2.len
  have C1 := spanRight_any A1 n1 c1 l1 w h1 hn1
  have C2 := fun W (h : SlS W A2 n2 l2) => spanRight_any A2 n2 c2 l2 W h hn2
  cases hr1 : rightS l1
  · have HF := Lib.hid (withinS_left (b := l2) hr1)
    rw [hr1] at C1
    have D1 := Lib.hid C1
    clear C1 C2 hr1
    go_enter Try.func33, Try.ntmps33
    go_wp2_with fail
    refine D1.out.mono ?_
    rintro e w1 ⟨rfl, b1⟩
    go_wp2
    go_ret
    exact ⟨retb HF.out, b1⟩
  · cases hr2 : rightS l2
    · have HF := Lib.hid (withinS_right (a := l1) hr2)
      rw [hr1] at C1
      simp only [hr2] at C2
      have D1 := Lib.hid C1
      have D2 := Lib.hid C2
      clear C1 C2 hr1 hr2
      go_enter Try.func33, Try.ntmps33
      go_wp2_with fail
      refine D1.out.mono ?_
      rintro e w1 ⟨rfl, b1⟩
      have D3 := Lib.hid (D2.out w1 (Sl.below h2 b1))
      go_wp2_with fail
      refine D3.out.mono ?_
      rintro e w2 ⟨rfl, b2⟩
      go_wp2
      go_ret
      exact ⟨retb HF.out, b1.trans (b2.mono b1.size)⟩
    · have HR1 := Lib.hid hr1
      have HR2 := Lib.hid hr2
      rw [hr1] at C1
      simp only [hr2] at C2
      have D1 := Lib.hid C1
      have D2 := Lib.hid C2
      clear C1 C2 hr1 hr2
      go_enter Try.func33, Try.ntmps33
      go_wp2_with fail
      refine D1.out.mono ?_
      rintro e w1 ⟨rfl, b1⟩
      have D3 := Lib.hid (D2.out w1 (Sl.below h2 b1))
      go_wp2_with fail
      refine D3.out.mono ?_
      rintro e w2 ⟨rfl, b2⟩
      have B2 := b1.trans (b2.mono b1.size)
      clear D1 D2 D3 b1 b2
      go_wp2
      go_loopw [20] (fun i wr => ∃ (k : Nat), i = .int .i64 (k : Int) ∧ k ≤ n1 ∧ Hid (WTo l1 l2 k) ∧ Below w.heap.size w wr) (fun i _ => n1 - (intOf i).toNat)
      case atStart => exact ⟨0, rfl, Nat.zero_le _, WTo.start l1 l2, B2⟩
      case round =>
        obtain ⟨k, rfl, hk, HW, hbel⟩ := hrel
        have hsz := hbel.size
        by_cases hlt : k < n1
        · obtain ⟨b, off, x1, x2, x3, rfl, hx, hc0, hc1, hc2⟩ := SlS.at_ (Sl.below h1 hbel) hlt
          have Hx := Lib.hid hx
          have RX0 := Lib.hid (Box3.new wr 55 x1 x2 x3)
          have RL0 := Lib.hid (hbel.alloc hsz (.cells #[.int .i64 x1, .int .i64 x2, .int .i64 x3] 55))
          clear hx
          obtain ⟨wo, hwo⟩ : ∃ wo : World, wo = wr := ⟨_, rfl⟩
          subst hwo
          go_wp2
          go_loopw [7, 26] (fun f i wi => ∃ (j : Nat), i = .int .i64 (j : Int) ∧ f = .bool (foundTo l2 (x1, x2, x3) j) ∧ j ≤ n2 ∧ Hid (Box3 wi wo.heap.size 55 x1 x2 x3) ∧ Below w.heap.size w wi ∧ wo.heap.size + 1 ≤ wi.heap.size) (fun _ i _ => n2 - (intOf i).toNat)
          case atStart => exact ⟨0, rfl, rfl, Nat.zero_le _, RX0, RL0.out, by simp⟩
          case round =>
            obtain ⟨j, rfl, rfl, hj, HX, hbi, hzi⟩ := hrel
            have hsi := hbi.size
            by_cases hjt : j < n2
            · obtain ⟨b', off', y1, y2, y3, rfl, hy, hd0, hd1, hd2⟩ := SlS.at_ (Sl.below h2 hbi) hjt
              have Hy := Lib.hid hy
              have g0 := HX.out.c0
              have g1 := HX.out.c1
              have g2 := HX.out.c2
              have g6 := HX.out.lt
              have RX := Lib.hid (HX.out.alloc (.cells #[.int .i64 y1, .int .i64 y2, .int .i64 y3] 55))
              have RL := Lib.hid (hbi.alloc hsi (.cells #[.int .i64 y1, .int .i64 y2, .int .i64 y3] 55))
              have HZ := Lib.hid (show wo.heap.size + 1 ≤ (wr.alloc (.cells #[.int .i64 y1, .int .i64 y2, .int .i64 y3] 55)).heap.size by simp; omega)
              clear hy hbi
              cases hf : foundTo l2 (x1, x2, x3) j
              · have Hff := Lib.hid hf
                by_cases t1 : x1 = y1
                · subst t1
                  have v1 : (x1 == x1) = true := beq_self_eq_true _
                  by_cases t2 : x2 = y2
                  · subst t2
                    have v2 : (x2 == x2) = true := beq_self_eq_true _
                    by_cases t3 : x3 = y3
                    · subst t3
                      have v3 : (x3 == x3) = true := beq_self_eq_true _
                      clear hf
                      have HN := Lib.hid (found_hit (x := (x1, x2, x3)) Hy.out (covS_mk rfl (by omega) (by omega)))
                      go_wp2
                      go_roundw
                      case rel => exact ⟨j + 1, by go_num, by rw [HN.out], by omega, RX, RL.out, HZ.out⟩
                      case measure => simp [intOf]; omega
                    · have v3 : (x3 == y3) = false := beq_eq_false_iff_ne.2 t3
                      by_cases t4 : x3 ≤ y3
                      · clear hf
                        have HN := Lib.hid (found_hit (x := (x1, x2, x3)) Hy.out (covS_mk rfl (by omega) (by omega)))
                        go_wp2
                        go_roundw
                        case rel => exact ⟨j + 1, by go_num, by rw [HN.out], by omega, RX, RL.out, HZ.out⟩
                        case measure => simp [intOf]; omega
                      · clear hf
                        have HN := Lib.hid (found_miss Hy.out Hff.out (fun h => by have := covS_le h; omega))
                        go_wp2
                        go_roundw
                        case rel => exact ⟨j + 1, by go_num, by rw [HN.out], by omega, RX, RL.out, HZ.out⟩
                        case measure => simp [intOf]; omega
                  · have v2 : (x2 == y2) = false := beq_eq_false_iff_ne.2 t2
                    by_cases t5 : y2 ≤ x2
                    · by_cases t4 : x3 ≤ y3
                      · clear hf
                        have HN := Lib.hid (found_hit (x := (x1, x2, x3)) Hy.out (covS_mk rfl (by omega) (by omega)))
                        go_wp2
                        go_roundw
                        case rel => exact ⟨j + 1, by go_num, by rw [HN.out], by omega, RX, RL.out, HZ.out⟩
                        case measure => simp [intOf]; omega
                      · clear hf
                        have HN := Lib.hid (found_miss Hy.out Hff.out (fun h => by have := covS_le h; omega))
                        go_wp2
                        go_roundw
                        case rel => exact ⟨j + 1, by go_num, by rw [HN.out], by omega, RX, RL.out, HZ.out⟩
                        case measure => simp [intOf]; omega
                    · clear hf
                      have HN := Lib.hid (found_miss Hy.out Hff.out (fun h => by have := covS_le h; omega))
                      go_wp2
                      go_roundw
                      case rel => exact ⟨j + 1, by go_num, by rw [HN.out], by omega, RX, RL.out, HZ.out⟩
                      case measure => simp [intOf]; omega
                · have v1 : (x1 == y1) = false := beq_eq_false_iff_ne.2 t1
                  clear hf
                  have HN := Lib.hid (found_miss Hy.out Hff.out (fun h => by have := covS_le h; omega))
                  go_wp2
                  go_roundw
                  case rel => exact ⟨j + 1, by go_num, by rw [HN.out], by omega, RX, RL.out, HZ.out⟩
                  case measure => simp [intOf]; omega
              · have Hff := Lib.hid hf
                clear hf
                have HN := Lib.hid (found_keep Hy.out Hff.out)
                go_wp2
                go_roundw
                case rel => exact ⟨j + 1, by go_num, by rw [HN.out], by omega, RX, RL.out, HZ.out⟩
                case measure => simp [intOf]; omega
            · obtain rfl : j = n2 := by omega
              cases hf : foundTo l2 (x1, x2, x3) j
              · have HF := Lib.hid (withinS_no HR2.out (List.mem_of_getElem? Hx.out) (foundTo_no e2 hf))
                clear hf
                go_wp2
                go_ret
                exact ⟨retb HF.out, hbi⟩
              · have HN := Lib.hid (HW.out.step Hx.out (foundTo_yes hf))
                clear hf
                go_wp2
                go_roundw
                case rel => exact ⟨k + 1, by go_num, by omega, HN, hbi⟩
                case measure => simp [intOf]; omega
        · obtain rfl : k = n1 := by omega
          have HF := Lib.hid (HW.out.all e1 HR1.out HR2.out)
          go_wp2
          go_ret
          exact ⟨retb HF.out, hbel⟩

end Go.Proofs.Ytjjemoiblbehoaa
