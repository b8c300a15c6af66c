/-
  vect.Below and firthref04.Below tell whether one vector is nowhere above another one.
-/
import Derived.Test.YtjjemoiblbehoaaVectJoin
namespace Go.Proofs.Ytjjemoiblbehoaa
open Go.RowKit
set_option linter.unusedVariables false

def belowJ (a b : List Int) : Bool := joinOk a b && (joinL a b == b)
theorem join_at {a b : List Int} {k : Nat} {x y : Int} (hx : a[k]? = some x) (hy : b[k]? = some y) : (joinL a b)[k]? = some (max x y) := by simp [joinL, List.getElem?_zipWith, hx, hy]

set_option maxHeartbeats 1000000 in
set_option maxRecDepth 100000 in
theorem below_any (A1 A2 : Option Addr) (n1 n2 c1 c2 : Nat) (l1 l2 : List Int) (w : World) (h1 : SlI w A1 n1 l1) (h2 : SlI w A2 n2 l2) (hn1 : n1 ≤ 140737488351232) (hn2 : n2 ≤ 140737488351232) :
    Calls Try.prog 13 #[.slice A1 n1 c1, .slice A2 n2 c2] w fun e w' => e = .returned (.bool (belowJ l1 l2)) ∧ Below w.heap.size w w' := by
  have e1 := h1.len
  have e2 := h2.len
  cases hj : joinOk l1 l2
  · have C := Lib.hid (join_no A1 A2 n1 n2 c1 c2 l1 l2 w h1 h2 hn1 hn2 hj)
    have HF := Lib.hid (show belowJ l1 l2 = false by simp [belowJ, hj])
    clear hj
    go_enter Try.func13, Try.ntmps13
    go_wp2_with fail
    refine C.out.mono ?_
    rintro e w' ⟨rfl, rfl⟩
    go_wp2
    go_loop [16] (fun i => i = .int .i64 0) (fun _ => 0)
    case atStart => rfl
    case round =>
      subst hrel
      go_wp2
      go_ret
      exact ⟨retb HF.out, Below.refl _ _⟩
  · have C := Lib.hid (join_yes A1 A2 n1 n2 c1 c2 l1 l2 w h1 h2 hj)
    have Hb := Lib.hid (show belowJ l1 l2 = (joinL l1 l2 == l2) by simp [belowJ, hj])
    obtain ⟨r1, r2, r3⟩ := joinOk_parts hj
    have hjl : (joinL l1 l2).length = n2 := by simp [joinL]; omega
    clear hj r1 r2
    go_enter Try.func13, Try.ntmps13
    go_wp2_with fail
    refine C.out.mono ?_
    rintro e w1 ⟨A3, n3, c3, rfl, s3, hc3, -, b1⟩
    have hn3 : n3 = n2 := by have := s3.len; omega
    subst hn3
    have h2' := Sl.below h2 b1
    have HJ := Lib.hid hjl
    have HE1 := Lib.hid e1
    have HE2 := Lib.hid e2
    clear C hjl e1 e2 r3
    go_wp2
    go_loopw [16] (fun i wr => ∃ k : Nat, i = .int .i64 (k : Int) ∧ k ≤ n3 ∧ Hid (EqTo (joinL l1 l2) l2 k) ∧ ∃ d, wr = w1.drewN d) (fun i _ => n3 - (intOf i).toNat)
    case atStart => exact ⟨0, rfl, Nat.zero_le _, rfl, 0, rfl⟩
    case round =>
      obtain ⟨k, rfl, hk, Hok, d, rfl⟩ := hrel
      by_cases hlt : k < n3
      · obtain ⟨b, off, x, rfl, hx, hc⟩ := SlI.at_ s3 hlt
        obtain ⟨b', off', y, rfl, hy, hc'⟩ := SlI.at_ h2' hlt
        have Hx := Lib.hid hx
        have Hy := Lib.hid hy
        clear hx hy
        have i0 : (0 : Int) ≤ (k : Int) := by omega
        have i1 : (k : Int) < (n3 : Int) := by omega
        by_cases hxy : x = y
        · have hb : (x != y) = false := by simp [hxy]
          go_wp2
          go_quiet (fail)
          go_wp2
          go_roundw
          case rel => exact ⟨k + 1, by go_num, by omega, Hok.out.step Hx.out Hy.out hxy, _, rfl⟩
          case measure => simp [intOf]; omega
        · have hb : (x != y) = true := by simp [hxy]
          go_wp2
          go_quiet (fail)
          go_wp2
          go_ret
          exact ⟨retb (by rw [Hb.out]; exact EqTo.ne Hx.out Hy.out hxy), below_drewN (below_drewN b1 _) _⟩
      · obtain rfl : k = n3 := by omega
        go_wp2
        go_ret
        exact ⟨retb (by rw [Hb.out]; exact Hok.out.all HJ.out HE2.out), below_drewN b1 _⟩

set_option maxHeartbeats 1000000 in
set_option maxRecDepth 100000 in
theorem refBelow_any (A1 A2 : Option Addr) (n1 n2 c1 c2 : Nat) (l1 l2 : List Int) (w : World) (h1 : SlI w A1 n1 l1) (h2 : SlI w A2 n2 l2) (hn1 : n1 ≤ 140737488351232) (hn2 : n2 ≤ 140737488351232) :
    Calls Try.prog 14 #[.slice A1 n1 c1, .slice A2 n2 c2] w fun e w' => e = .returned (.bool (belowJ l1 l2)) ∧ ∃ k, w' = w.drewN k := by
  have e1 := h1.len
  have e2 := h2.len
  have C1 := Lib.hid (fun c => refRight_any A1 n1 c l1 w h1 hn1)
  have C2 := Lib.hid (fun c => refRight_any A2 n2 c l2 w h2 hn2)
  cases hj : joinOk l1 l2
  · have HF := Lib.hid (show belowJ l1 l2 = false by simp [belowJ, hj])
    cases hr1 : rightB l1
    · rw [hr1] at C1
      go_enter Try.func14, Try.ntmps14
      go_wp2_with fail
      refine (C1.out _).mono ?_
      rintro e w' ⟨rfl, rfl⟩
      go_wp2
      go_ret
      exact ⟨retb HF.out, 0, rfl⟩
    · rw [hr1] at C1
      cases hr2 : rightB l2
      · rw [hr2] at C2
        go_enter Try.func14, Try.ntmps14
        go_wp2_with fail
        refine (C1.out _).mono ?_
        rintro e w' ⟨rfl, rfl⟩
        go_wp2_with fail
        refine (C2.out _).mono ?_
        rintro e w' ⟨rfl, rfl⟩
        go_wp2
        go_ret
        exact ⟨retb HF.out, 0, rfl⟩
      · rw [hr2] at C2
        have hne : ((n1 : Int) != (n2 : Int)) = true := by
          simp only [joinOk, hr1, hr2, Bool.true_and, decide_eq_false_iff_not] at hj
          simp; omega
        go_enter Try.func14, Try.ntmps14
        go_wp2_with fail
        refine (C1.out _).mono ?_
        rintro e w' ⟨rfl, rfl⟩
        go_wp2_with fail
        refine (C2.out _).mono ?_
        rintro e w' ⟨rfl, rfl⟩
        go_wp2
        go_ret
        exact ⟨retb HF.out, 0, rfl⟩
  · have Hb := Lib.hid (show belowJ l1 l2 = (joinL l1 l2 == l2) by simp [belowJ, hj])
    obtain ⟨r1, r2, r3⟩ := joinOk_parts hj
    have hjl : (joinL l1 l2).length = n1 := by simp [joinL]; omega
    rw [r1] at C1
    rw [r2] at C2
    obtain rfl : n1 = n2 := by omega
    have HJ := Lib.hid hjl
    have HE1 := Lib.hid e1
    have HE2 := Lib.hid e2
    clear hjl e1 e2 r3 hj r1 r2
    go_enter Try.func14, Try.ntmps14
    go_wp2_with fail
    refine (C1.out _).mono ?_
    rintro e w' ⟨rfl, rfl⟩
    go_wp2_with fail
    refine (C2.out _).mono ?_
    rintro e w' ⟨rfl, rfl⟩
    go_wp2
    go_loopw [5] (fun i wr => ∃ k : Nat, i = .int .i64 (k : Int) ∧ k ≤ n1 ∧ Hid (EqTo (joinL l1 l2) l2 k) ∧ ∃ d, wr = w.drewN d) (fun i _ => n1 - (intOf i).toNat)
    case atStart => exact ⟨0, rfl, Nat.zero_le _, rfl, 0, rfl⟩
    case round =>
      obtain ⟨k, rfl, hk, Hok, d, rfl⟩ := hrel
      by_cases hlt : k < n1
      · obtain ⟨b, off, x, rfl, hx, hc⟩ := SlI.at_ h1 hlt
        obtain ⟨b', off', y, rfl, hy, hc'⟩ := SlI.at_ h2 hlt
        have Hx := Lib.hid (join_at hx hy)
        have Hy := Lib.hid hy
        clear hx hy
        have i0 : (0 : Int) ≤ (k : Int) := by omega
        have i1 : (k : Int) < (n1 : Int) := by omega
        by_cases hxy : y < x
        · go_wp2
          go_quiet (fail)
          go_wp2
          go_ret
          exact ⟨retb (by rw [Hb.out]; exact EqTo.ne Hx.out Hy.out (by omega)), _, by rw [World.drewN_drewN]⟩
        · have hd : decide (y < x) = false := by simp; omega
          go_wp2
          go_quiet (fail)
          go_wp2
          go_roundw
          case rel => exact ⟨k + 1, by go_num, by omega, Hok.out.step Hx.out Hy.out (by omega), _, rfl⟩
          case measure => simp [intOf]; omega
      · obtain rfl : k = n1 := by omega
        go_wp2
        go_ret
        exact ⟨retb (by rw [Hb.out]; exact Hok.out.all HJ.out HE2.out), d, rfl⟩
end Go.Proofs.Ytjjemoiblbehoaa
