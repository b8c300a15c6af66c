/-
  span.Has, span.Top, firthref03.Has, firthref03.Top.
-/
import Derived.Test.YtlcfknpmnoghbaaSpanSmall
namespace Go.Proofs.Ytlcfknpmnoghbaa
open Go.RowKit
set_option linter.unusedVariables false

theorem topTo_max {l : List Sp} {k : Nat} {x y z : Int} (hx : l[k]? = some (x, y, z)) : topTo l x (k + 1) = if topTo l x k < z then z else topTo l x k := by
  have e : l.getD k (0, 0, 0) = (x, y, z) := by rw [List.getD_eq_getElem?_getD, hx]; rfl
  rw [topTo, e]
  simp

set_option maxHeartbeats 1000000 in
set_option maxRecDepth 100000 in
theorem spanHas_any (A : Option Addr) (n c : Nat) (l : List Sp) (s m : Int) (w : World) (hs : SlS w A n l) (hn : n ≤ 140737488351232) :
    Calls Try.prog 44 #[.slice A n c, .agg #[.int .i64 s, .int .i64 m]] w fun e w' => e = .returned (.bool (hasB l s m)) ∧ Below w.heap.size w w' := by
  have hll := hs.len
  have HB0 := Lib.hid (Box2.new w 25 s m)
  go_enter Try.func44, Try.ntmps44
  go_wp2
  go_loopw [9] (fun i wr => ∃ (k : Nat), i = .int .i64 (k : Int) ∧ k ≤ n ∧ Hid (NoneTo l s m k) ∧ Hid (Box2 wr w.heap.size 25 s m) ∧ Below w.heap.size w wr) (fun i _ => n - (intOf i).toNat)
  case atStart => exact ⟨0, rfl, Nat.zero_le _, NoneTo.start l s m, HB0, (Below.refl _ _).alloc (Nat.le_refl _) _⟩
  case round =>
    obtain ⟨k, rfl, hk, Hok, Hbox, hbel⟩ := hrel
    have hsz := hbel.size
    by_cases hlt : k < n
    · obtain ⟨b, off, x, y, z, rfl, hx, hc0, hc1, hc2⟩ := SlS.at_ (Sl.below hs hbel) hlt
      have Hx := Lib.hid hx
      have g0 := Hbox.out.c0
      have g1 := Hbox.out.c1
      have g6 := Hbox.out.lt
      have R1 := Lib.hid (Hbox.out.alloc (.cells #[.int .i64 x, .int .i64 y, .int .i64 z] 42))
      have R2 := Lib.hid (hbel.alloc hsz (.cells #[.int .i64 x, .int .i64 y, .int .i64 z] 42))
      clear hx
      by_cases u1 : x = s
      · subst u1
        by_cases u2 : y ≤ m
        · by_cases u3 : m ≤ z
          · have HS := Lib.hid (NoneTo.hit Hx.out (show inSp (x, y, z) x m from ⟨rfl, u2, u3⟩))
            go_wp2
            go_ret
            exact ⟨retb HS.out, R2.out⟩
          · have HS := Lib.hid (Hok.out.step Hx.out (by unfold inSp; simp only; omega))
            go_wp2
            go_roundw
            case rel => exact ⟨k + 1, by go_num, by omega, HS.out, R1, R2.out⟩
            case measure => simp [intOf]; omega
        · have HS := Lib.hid (Hok.out.step Hx.out (by unfold inSp; simp only; omega))
          go_wp2
          go_roundw
          case rel => exact ⟨k + 1, by go_num, by omega, HS.out, R1, R2.out⟩
          case measure => simp [intOf]; omega
      · have HS := Lib.hid (Hok.out.step Hx.out (by unfold inSp; simp only; omega))
        go_wp2
        go_roundw
        case rel => exact ⟨k + 1, by go_num, by omega, HS.out, R1, R2.out⟩
        case measure => simp [intOf]; omega
    · obtain rfl : k = n := by omega
      go_wp2
      go_ret
      exact ⟨retb (Hok.out.all hll), hbel⟩

set_option maxHeartbeats 1000000 in
set_option maxRecDepth 100000 in
theorem spanTop_any (A : Option Addr) (n c : Nat) (l : List Sp) (s : Int) (w : World) (hs : SlS w A n l) (hn : n ≤ 140737488351232) :
    Calls Try.prog 28 #[.slice A n c, .int .i64 s] w fun e w' => e = .returned (.int .i64 (topS l s)) ∧ Below w.heap.size w w' := by
  have hll := hs.len
  go_enter Try.func28, Try.ntmps28
  go_wp2
  go_loopw [5, 10] (fun t i wr => ∃ (k : Nat), i = .int .i64 (k : Int) ∧ t = .int .i64 (topTo l s k) ∧ k ≤ n ∧ Below w.heap.size w wr) (fun _ i _ => n - (intOf i).toNat)
  case atStart => exact ⟨0, rfl, rfl, Nat.zero_le _, Below.refl _ _⟩
  case round =>
    obtain ⟨k, rfl, rfl, hk, hbel⟩ := hrel
    have hsz := hbel.size
    by_cases hlt : k < n
    · obtain ⟨b, off, x, y, z, rfl, hx, hc0, hc1, hc2⟩ := SlS.at_ (Sl.below hs hbel) hlt
      have Hx := Lib.hid hx
      have R2 := Lib.hid (hbel.alloc hsz (.cells #[.int .i64 x, .int .i64 y, .int .i64 z] 42))
      clear hx
      by_cases u1 : x = s
      · subst u1
        have HS := Lib.hid (topTo_max Hx.out)
        go_wp2
        go_roundw
        case rel => exact ⟨k + 1, by go_num, by rw [HS.out], by omega, R2.out⟩
        case measure => simp [intOf]; omega
      · have HS := Lib.hid (topTo_no Hx.out (fun h => u1 h.1))
        go_wp2
        go_roundw
        case rel => exact ⟨k + 1, by go_num, by rw [HS.out], by omega, R2.out⟩
        case measure => simp [intOf]; omega
    · obtain rfl : k = n := by omega
      have HT := Lib.hid (show topS l s = topTo l s k by rw [topS, hll])
      go_wp2
      go_ret
      exact ⟨reti HT.out, hbel⟩

set_option maxHeartbeats 1000000 in
set_option maxRecDepth 100000 in
theorem refHas_any (A : Option Addr) (n c : Nat) (l : List Sp) (s m : Int) (w : World) (hs : SlS w A n l) (hn : n ≤ 140737488351232) :
    Calls Try.prog 40 #[.slice A n c, .agg #[.int .i64 s, .int .i64 m]] w fun e w' => e = .returned (.bool (hasB l s m)) ∧ Below w.heap.size w w' := by
  have hll := hs.len
  have HB0 := Lib.hid (Box2.new w 25 s m)
  have HB1 : Below w.heap.size w (w.alloc (.cells #[.int .i64 s, .int .i64 m] 25)) := (Below.refl _ _).alloc (Nat.le_refl _) _
  have HB := Lib.hid HB1
  have hs1 := Sl.below hs HB1
  have g0 := HB0.out.c0
  have g1 := HB0.out.c1
  clear HB1
  go_enter Try.func40, Try.ntmps40
  go_wp2
  go_loopw [5] (fun i wr => ∃ (k : Nat), i = .int .i64 (k : Int) ∧ k ≤ n ∧ Hid (NoneTo l s m k) ∧ ∃ d, wr = (w.alloc (.cells #[.int .i64 s, .int .i64 m] 25)).drewN d) (fun i _ => n - (intOf i).toNat)
  case atStart => exact ⟨0, rfl, Nat.zero_le _, NoneTo.start l s m, 0, rfl⟩
  case round =>
    obtain ⟨k, rfl, hk, Hok, d, rfl⟩ := hrel
    by_cases hlt : k < n
    · obtain ⟨b, off, x, y, z, rfl, hx, hc0, hc1, hc2⟩ := SlS.at_ hs1 hlt
      have Hx := Lib.hid hx
      clear hx
      have j0 : (0 : Int) ≤ (k : Int) := by omega
      have j1 : (k : Int) < (n : Int) := by omega
      have j2 : ((k : Int)).toNat = k := by omega
      by_cases u1 : x = s
      · subst u1
        by_cases u2 : y ≤ m
        · by_cases u3 : m ≤ z
          · have HS := Lib.hid (NoneTo.hit Hx.out (show inSp (x, y, z) x m from ⟨rfl, u2, u3⟩))
            have v1 : (x == x) = true := beq_self_eq_true x
            have v2 : decide (m ≥ y) = true := decide_eq_true u2
            have v3 : decide (m ≤ z) = true := decide_eq_true u3
            go_wp2
            go_quiet (fail)
            go_wp2
            go_ret
            exact ⟨retb HS.out, below_drewN (below_drewN HB.out _) _⟩
          · have HS := Lib.hid (Hok.out.step Hx.out (by unfold inSp; simp only; omega))
            have v1 : (x == x) = true := beq_self_eq_true x
            have v2 : decide (m ≥ y) = true := decide_eq_true u2
            have v3 : decide (m ≤ z) = false := decide_eq_false u3
            go_wp2
            go_quiet (fail)
            go_wp2
            go_roundw
            case rel => exact ⟨k + 1, by go_num, by omega, HS.out, _, rfl⟩
            case measure => simp [intOf]; omega
        · have HS := Lib.hid (Hok.out.step Hx.out (by unfold inSp; simp only; omega))
          have v1 : (x == x) = true := beq_self_eq_true x
          have v2 : decide (m ≥ y) = false := decide_eq_false u2
          go_wp2
          go_quiet (fail)
          go_wp2
          go_roundw
          case rel => exact ⟨k + 1, by go_num, by omega, HS.out, _, rfl⟩
          case measure => simp [intOf]; omega
      · have HS := Lib.hid (Hok.out.step Hx.out (by unfold inSp; simp only; omega))
        have v1 : (x == s) = false := by simpa using u1
        go_wp2
        go_quiet (fail)
        go_wp2
        go_roundw
        case rel => exact ⟨k + 1, by go_num, by omega, HS.out, _, rfl⟩
        case measure => simp [intOf]; omega
    · obtain rfl : k = n := by omega
      go_wp2
      go_ret
      exact ⟨retb (Hok.out.all hll), below_drewN HB.out _⟩

set_option maxHeartbeats 1000000 in
set_option maxRecDepth 100000 in
theorem refTop_any (A : Option Addr) (n c : Nat) (l : List Sp) (s : Int) (w : World) (hs : SlS w A n l) (hn : n ≤ 140737488351232) :
    Calls Try.prog 26 #[.slice A n c, .int .i64 s] w fun e w' => e = .returned (.int .i64 (topS l s)) ∧ w' = w := by
  have hll := hs.len
  go_enter Try.func26, Try.ntmps26
  go_wp2
  go_loop [5, 6] (fun t i => ∃ (k : Nat), i = .int .i64 (k : Int) ∧ t = .int .i64 (topTo l s k) ∧ k ≤ n) (fun _ i => n - (intOf i).toNat)
  case atStart => exact ⟨0, rfl, rfl, Nat.zero_le _⟩
  case round =>
    obtain ⟨k, rfl, rfl, hk⟩ := hrel
    by_cases hlt : k < n
    · obtain ⟨b, off, x, y, z, rfl, hx, hc0, hc1, hc2⟩ := SlS.at_ hs hlt
      have Hx := Lib.hid hx
      clear hx
      by_cases u1 : x = s
      · subst u1
        by_cases u2 : topTo l x k < z
        · have HS := Lib.hid (topTo_yes Hx.out rfl u2)
          have v1 : (x == x) = true := beq_self_eq_true x
          have v2 : decide (z > topTo l x k) = true := decide_eq_true u2
          go_wp2
          go_round
          case rel => exact ⟨k + 1, by go_num, by rw [HS.out], by omega⟩
          case measure => simp [intOf]; omega
        · have HS := Lib.hid (topTo_no Hx.out (fun h => u2 h.2))
          have v1 : (x == x) = true := beq_self_eq_true x
          have v2 : decide (z > topTo l x k) = false := decide_eq_false u2
          go_wp2
          go_round
          case rel => exact ⟨k + 1, by go_num, by rw [HS.out], by omega⟩
          case measure => simp [intOf]; omega
      · have HS := Lib.hid (topTo_no Hx.out (fun h => u1 h.1))
        have v1 : (x == s) = false := by simpa using u1
        go_wp2
        go_round
        case rel => exact ⟨k + 1, by go_num, by rw [HS.out], by omega⟩
        case measure => simp [intOf]; omega
    · obtain rfl : k = n := by omega
      have HT := Lib.hid (show topS l s = topTo l s k by rw [topS, hll])
      go_wp2
      go_ret
      exact ⟨reti HT.out, rfl⟩
end Go.Proofs.Ytlcfknpmnoghbaa
