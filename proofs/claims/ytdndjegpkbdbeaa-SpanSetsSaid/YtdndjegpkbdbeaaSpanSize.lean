/-
  span.Size and firthref03.Size: how many dots there are.
-/
import Derived.Test.YtdndjegpkbdbeaaSpanWithinPlain
import Derived.Test.YtdndjegpkbdbeaaSpanRefRight
namespace Go.Proofs.Ytdndjegpkbdbeaa
open Go.RowKit
set_option linter.unusedVariables false

theorem inti {a b : Int} (h : a = b) : Value.int .i64 a = Value.int .i64 b := by rw [h]

set_option maxHeartbeats 1000000 in
set_option maxRecDepth 100000 in
theorem spanSize_any (A : Option Addr) (n c : Nat) (l : List Sp) (w : World) (hs : SlS w A n l) (hn : n ≤ 140737488351232) :
    Calls Try.prog 24 #[.slice A n c] w fun e w' => e = .returned (.int .i64 (sizeS l)) ∧ Below w.heap.size w w' := by
  have hll := hs.len
  have C0 := spanRight_any A n c l w hs hn
  cases hr : rightS l
  · have HF := Lib.hid (sizeS_wrong hr)
    rw [hr] at C0
    have C := Lib.hid C0
    clear hr C0
    go_enter Try.func24, Try.ntmps24
    go_wp2_with fail
    refine C.out.mono ?_
    rintro e w' ⟨rfl, b1⟩
    go_wp2
    go_ret
    exact ⟨reti HF.out, b1⟩
  · have HF := Lib.hid (sizeS_right hr)
    have HO := Lib.hid (rightS_true.1 hr).1.1
    rw [hr] at C0
    have C := Lib.hid C0
    clear hr C0
    go_enter Try.func24, Try.ntmps24
    go_wp2_with fail
    refine C.out.mono ?_
    rintro e w1 ⟨rfl, b1⟩
    have hs1 := Sl.below hs b1
    have hz1 := b1.size
    clear C hs
    go_wp2
    go_loopw [3, 11] (fun t i wr => ∃ (k : Nat) (q : Int), i = .int .i64 (k : Int) ∧ t = .int .i64 q ∧ k ≤ n ∧ Hid (q = sizeTo l k) ∧ 0 ≤ q ∧ q ≤ 4611686018427387904 ∧ Below w1.heap.size w1 wr) (fun _ i _ => n - (intOf i).toNat)
    case atStart => exact ⟨0, 0, rfl, rfl, Nat.zero_le _, rfl, by omega, by omega, Below.refl _ _⟩
    case round =>
      obtain ⟨k, q, rfl, rfl, hk, HQ, hq0, hq1, hbel⟩ := hrel
      have hsz := hbel.size
      by_cases hlt : k < n
      · obtain ⟨b, off, x, y, z, rfl, hx, hc0, hc1, hc2⟩ := SlS.at_ (Sl.below hs1 hbel) hlt
        have ho := HO.out _ (List.mem_of_getElem? hx)
        unfold okSp at ho
        obtain ⟨o1, o2, o3, o4, o5⟩ := ho
        simp only at o1 o2 o3 o4 o5
        have HS := Lib.hid (sizeTo_step hx)
        have R2 := Lib.hid (hbel.alloc hsz (.cells #[.int .i64 x, .int .i64 y, .int .i64 z] 37))
        clear hx
        by_cases u1 : z - y + 1 ≤ 4611686018427387904 - q
        · go_wp2
          all_goals go_roundw
          case rel => exact ⟨k + 1, q + (z - y + 1), by go_num, inti (by omega), by omega, by show _ = _; rw [HS.out, ← HQ.out]; omega, by omega, by omega, R2.out⟩
          case measure => simp [intOf]; omega
        · go_wp2
          all_goals go_roundw
          case rel => exact ⟨k + 1, 4611686018427387904, by go_num, inti (by omega), by omega, by show _ = _; rw [HS.out, ← HQ.out]; omega, by omega, by omega, R2.out⟩
          case measure => simp [intOf]; omega
      · obtain rfl : k = n := by omega
        have HE := Lib.hid (show sizeS l = q by rw [HF.out, HQ.out, hll])
        go_wp2
        go_ret
        exact ⟨reti HE.out, b1.trans (hbel.mono hz1)⟩

set_option maxHeartbeats 1000000 in
set_option maxRecDepth 100000 in
theorem refSize_any (A : Option Addr) (n c : Nat) (l : List Sp) (w : World) (hs : SlS w A n l) (hn : n ≤ 140737488351232) :
    Calls Try.prog 25 #[.slice A n c] w fun e w' => e = .returned (.int .i64 (sizeS l)) ∧ Below w.heap.size w w' := by
  have hll := hs.len
  have C0 := refRightS_any A n c l w hs hn
  cases hr : rightS l
  · have HF := Lib.hid (sizeS_wrong hr)
    rw [hr] at C0
    have C := Lib.hid C0
    clear hr C0
    go_enter Try.func25, Try.ntmps25
    go_wp2_with fail
    refine C.out.mono ?_
    rintro e w' ⟨rfl, b1⟩
    go_wp2
    go_ret
    exact ⟨reti HF.out, b1⟩
  · have HF := Lib.hid (sizeS_right hr)
    have HR := Lib.hid hr
    have HO := Lib.hid (rightS_true.1 hr).1.1
    rw [hr] at C0
    have C := Lib.hid C0
    clear hr C0
    go_enter Try.func25, Try.ntmps25
    go_wp2_with fail
    refine C.out.mono ?_
    rintro e w1 ⟨rfl, b1⟩
    have hs1 := Sl.below hs b1
    have hz1 := b1.size
    clear C hs
    go_wp2
    go_loopw [3, 4] (fun t i wr => ∃ (k : Nat) (q : Int), i = .int .i64 (k : Int) ∧ t = .int .i64 q ∧ k ≤ n ∧ Hid (q = 4611686018427387904 - sizeTo l k) ∧ 0 ≤ q ∧ q ≤ 4611686018427387904 ∧ ∃ d, wr = w1.drewN d) (fun _ i _ => n - (intOf i).toNat)
    case atStart => exact ⟨0, 4611686018427387904, rfl, rfl, Nat.zero_le _, rfl, by omega, by omega, 0, rfl⟩
    case round =>
      obtain ⟨k, q, rfl, rfl, hk, HQ, hq0, hq1, d, rfl⟩ := hrel
      by_cases hlt : k < n
      · obtain ⟨b, off, x, y, z, rfl, hx, hc0, hc1, hc2⟩ := SlS.at_ hs1 hlt
        have ho := HO.out _ (List.mem_of_getElem? hx)
        unfold okSp at ho
        obtain ⟨o1, o2, o3, o4, o5⟩ := ho
        simp only at o1 o2 o3 o4 o5
        have HS := Lib.hid (sizeTo_step hx)
        have Hx := Lib.hid hx
        have j0 : (0 : Int) ≤ (k : Int) := by omega
        have j1 : (k : Int) < (n : Int) := by omega
        have i1 : IntKind.i64.wrap (z - y) = z - y := IntWalk.i64_in _ (by omega)
        clear hx
        by_cases u1 : q ≤ z - y
        · have v1 : decide (z - y ≥ q) = true := decide_eq_true u1
          have HE := Lib.hid (sizeS_full HR.out Hx.out (by have := HQ.out; omega))
          go_wp2_with fail
          go_quiet (fail)
          go_wp2
          go_ret
          exact ⟨reti HE.out, below_drewN (below_drewN b1 _) _⟩
        · have v1 : decide (z - y ≥ q) = false := decide_eq_false (by omega)
          have i2 : IntKind.i64.wrap (q - (z - y)) = q - (z - y) := IntWalk.i64_in _ (by omega)
          have i3 : IntKind.i64.wrap (q - (z - y) - 1) = q - (z - y) - 1 := IntWalk.i64_in _ (by omega)
          go_wp2_with fail
          go_quiet (fail)
          go_wp2_with fail
          go_quiet (fail)
          go_wp2
          clear i1 i2 i3
          go_roundw
          case rel => exact ⟨k + 1, q - (z - y) - 1, by go_num, rfl, by omega, by show _ = _; rw [HS.out]; have := HQ.out; omega, by omega, by omega, _, rfl⟩
          case measure => simp [intOf]; omega
      · obtain rfl : k = n := by omega
        have HE := Lib.hid (show sizeS l = 4611686018427387904 - q by rw [HF.out, HQ.out, hll]; omega)
        have i1 : IntKind.i64.wrap (4611686018427387904 - q) = 4611686018427387904 - q := IntWalk.i64_in _ (by omega)
        go_wp2
        go_ret
        exact ⟨reti HE.out, below_drewN b1 _⟩
end Go.Proofs.Ytdndjegpkbdbeaa
