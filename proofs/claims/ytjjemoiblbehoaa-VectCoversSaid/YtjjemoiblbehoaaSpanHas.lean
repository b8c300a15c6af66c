/-
  span.Has, span.Top, firthref03.Has, firthref03.Top.
-/
import Derived.Test.YtjjemoiblbehoaaSpanSmall
namespace Go.Proofs.Ytjjemoiblbehoaa
open Go.RowKit
set_option linter.unusedVariables false

theorem topTo_max {l : List Sp} {k : Nat} {x y z : Int} (hx : l[k]? = some (x, y, z)) : topTo l x (k + 1) = if topTo l x k < z then z else topTo l x k := by
  have e : l.getD k (0, 0, 0) = (x, y, z) := by rw [List.getD_eq_getElem?_getD, hx]; rfl
  rw [topTo, e]
  simp

set_option maxHeartbeats 1000000 in
set_option maxRecDepth 100000 in
theorem spanHas_any (A : Option Addr) (n c : Nat) (l : List Sp) (s m : Int) (w : World) (hs : SlS w A n l) (hn : n ≤ 140737488351232) :
    Calls Try.prog 32 #[.slice A n c, .agg #[.int .i64 s, .int .i64 m]] w fun e w' => e = .returned (.bool (hasB l s m)) ∧ Below w.heap.size w w' := by
  have hll := hs.len
  have HB0 := Lib.hid (Box2.new w 31 s m)
  go_enter Try.func32, Try.ntmps32
  go_wp2
  go_loopw [9] (fun i wr => ∃ (k : Nat), i = .int .i64 (k : Int) ∧ k ≤ n ∧ Hid (NoneTo l s m k) ∧ Hid (Box2 wr w.heap.size 31 s m) ∧ Below w.heap.size w wr) (fun i _ => n - (intOf i).toNat)
  case atStart => exact ⟨0, rfl, Nat.zero_le _, NoneTo.start l s m, HB0, (Below.refl _ _).alloc (Nat.le_refl _) _⟩
  case round =>
    obtain ⟨k, rfl, hk, Hok, Hbox, hbel⟩ := hrel
    have hsz := hbel.size
    by_cases hlt : k < n
    · obtain ⟨b, off, x, y, z, rfl, hx, hc0, hc1, hc2⟩ := SlS.at_ (Sl.below hs hbel) hlt
      have Hx := Lib.hid hx
      have g0 := Hbox.out.c0
      have g1 := Hbox.out.c1
      have g6 := Hbox.out.lt
      have R1 := Lib.hid (Hbox.out.alloc (.cells #[.int .i64 x, .int .i64 y, .int .i64 z] 55))
      have R2 := Lib.hid (hbel.alloc hsz (.cells #[.int .i64 x, .int .i64 y, .int .i64 z] 55))
      clear hx
      by_cases u1 : x = s
      · subst u1
        by_cases u2 : y ≤ m
        · by_cases u3 : m ≤ z
          · have HS := Lib.hid (NoneTo.hit Hx.out (show inSp (x, y, z) x m from ⟨rfl, u2, u3⟩))
            go_wp2
            go_ret
            exact ⟨retb HS.out, R2.out⟩
          · have HS := Lib.hid (Hok.out.step Hx.out (by unfold inSp; simp only; omega))
            go_wp2
            go_roundw
            case rel => exact ⟨k + 1, by go_num, by omega, HS.out, R1, R2.out⟩
            case measure => simp [intOf]; omega
        · have HS := Lib.hid (Hok.out.step Hx.out (by unfold inSp; simp only; omega))
          go_wp2
          go_roundw
          case rel => exact ⟨k + 1, by go_num, by omega, HS.out, R1, R2.out⟩
          case measure => simp [intOf]; omega
      · have HS := Lib.hid (Hok.out.step Hx.out (by unfold inSp; simp only; omega))
        go_wp2
        go_roundw
        case rel => exact ⟨k + 1, by go_num, by omega, HS.out, R1, R2.out⟩
        case measure => simp [intOf]; omega
    · obtain rfl : k = n := by omega
      go_wp2
      go_ret
      exact ⟨retb (Hok.out.all hll), hbel⟩

end Go.Proofs.Ytjjemoiblbehoaa
