/-
  vect.Right and firthref04.Right tell whether a vector is right; firthref04.Same whether two are the same.
-/
import Derived.Test.YtgnedaihchmoaaaVectPlain
import Derived.Test.YtgnedaihchmoaaaProg
import Derived.Deep.QuietTactic
import Derived.BigQuiet
import Derived.Laws.StructEq
namespace Go.Proofs.Ytgnedaihchmoaaa
open Go.RowKit
set_option linter.unusedVariables false

set_option maxHeartbeats 400000 in
theorem refRight_any (A : Option Addr) (n c : Nat) (l : List Int) (w : World) (hs : SlI w A n l) (hn : n ≤ 140737488351232) :
    Calls Try.prog 52 #[.slice A n c] w fun e w' => e = .returned (.bool (rightB l)) ∧ w = w' := by
  have hll := hs.len
  rcases (show n ≤ 0 ∨ 16 < n ∨ (1 ≤ n ∧ n ≤ 16) by omega) with h1 | h1 | ⟨h1, h2⟩
  · have HR := Lib.hid (right_short (l := l) (by omega))
    go_enter Try.func52, Try.ntmps52
    go_wp2
    go_ret
    exact ⟨retb HR.out, rfl⟩
  · have HR := Lib.hid (right_short (l := l) (by omega))
    have h0 : ((n : Int) == 0) = false := beq_eq_false_iff_ne.2 (by omega)
    go_enter Try.func52, Try.ntmps52
    go_wp2
    go_ret
    exact ⟨retb HR.out, rfl⟩
  · have h0 : ((n : Int) == 0) = false := beq_eq_false_iff_ne.2 (by omega)
    go_enter Try.func52, Try.ntmps52
    go_wp2
    go_loop [3] (fun i => ∃ k : Nat, i = .int .i64 (k : Int) ∧ k ≤ n ∧ Hid (OkTo l k)) (fun i => n - (intOf i).toNat)
    case atStart => exact ⟨0, rfl, Nat.zero_le _, OkTo.zero l⟩
    case round =>
      obtain ⟨k, rfl, hk, Hok⟩ := hrel
      by_cases hlt : k < n
      · obtain ⟨b, off, z, rfl, hz, hc⟩ := hs.at_ hlt
        have Hz := Lib.hid hz
        clear hz
        rcases (show z < 0 ∨ 4611686018427387904 < z ∨ (0 ≤ z ∧ z ≤ 4611686018427387904) by omega) with h1 | h1 | ⟨h1, h2⟩
        · go_wp2
          go_ret
          exact ⟨retb (right_bad Hz.out (.inl h1)), rfl⟩
        · go_wp2
          go_ret
          exact ⟨retb (right_bad Hz.out (.inr h1)), rfl⟩
        · go_wp2
          go_round
          case rel => exact ⟨k + 1, by go_num, by omega, Hok.out.step Hz.out h1 h2⟩
          case measure => simp [intOf]; omega
      · obtain rfl : k = n := by omega
        have HR := Lib.hid (Hok.out.all hll)
        go_wp2
        go_ret
        exact ⟨retb (by rw [HR.out]; simp; omega), rfl⟩

/-- Two lists are alike in their first k places. -/
def EqToV (a b : List Int) (k : Nat) : Prop := a.take k = b.take k
theorem EqToV.step {a b : List Int} {k : Nat} {x y : Int} (h : EqToV a b k) (hx : a[k]? = some x) (hy : b[k]? = some y) (e : x = y) : EqToV a b (k + 1) := by
  unfold EqToV at *
  rw [take_snoc_some hx, take_snoc_some hy, h, e]
theorem EqToV.ne {a b : List Int} {k : Nat} {x y : Int} (hx : a[k]? = some x) (hy : b[k]? = some y) (e : ¬ x = y) : (a == b) = false := by
  rw [beq_eq_false_iff_ne]
  rintro rfl
  rw [hx] at hy
  injection hy with hy
  exact e hy
theorem EqToV.all {a b : List Int} {n : Nat} (h : EqToV a b n) (ha : a.length = n) (hb : b.length = n) : (a == b) = true := by
  unfold EqToV at h
  rw [List.take_of_length_le (by omega), List.take_of_length_le (by omega)] at h
  rw [h]; simp

set_option maxHeartbeats 400000 in
theorem sameIv_any (A1 A2 : Option Addr) (n1 n2 c1 c2 : Nat) (l1 l2 : List Int) (w : World) (h1 : SlI w A1 n1 l1) (h2 : SlI w A2 n2 l2) (hn : n1 ≤ 140737488351232) :
    Calls Try.prog 62 #[.slice A1 n1 c1, .slice A2 n2 c2] w fun e w' => e = .returned (.bool (l1 == l2)) ∧ ∃ k, w' = w.drewN k := by
  have e1 := h1.len
  have e2 := h2.len
  by_cases he : n1 = n2
  · subst he
    go_enter Try.func62, Try.ntmps62
    go_wp2
    go_loopw [5] (fun i wr => ∃ k : Nat, i = .int .i64 (k : Int) ∧ k ≤ n1 ∧ Hid (EqToV l1 l2 k) ∧ ∃ d, wr = w.drewN d) (fun i _ => n1 - (intOf i).toNat)
    case atStart => exact ⟨0, rfl, Nat.zero_le _, rfl, 0, rfl⟩
    case round =>
      obtain ⟨k, rfl, hk, Hok, d, rfl⟩ := hrel
      by_cases hlt : k < n1
      · obtain ⟨b, off, x, rfl, hx, hc⟩ := h1.at_ hlt
        obtain ⟨b', off', y, rfl, hy, hc'⟩ := h2.at_ hlt
        have Hx := Lib.hid hx
        have Hy := Lib.hid hy
        clear hx hy
        have i0 : (0 : Int) ≤ (k : Int) := by omega
        have i1 : (k : Int) < (n1 : Int) := by omega
        by_cases hxy : x = y
        · have hb : (x != y) = false := by simp [hxy]
          go_wp2
          go_quiet (fail)
          go_wp2
          go_roundw
          case rel => exact ⟨k + 1, by go_num, by omega, Hok.out.step Hx.out Hy.out hxy, _, rfl⟩
          case measure => simp [intOf]; omega
        · have hb : (x != y) = true := by simp [hxy]
          go_wp2
          go_quiet (fail)
          go_wp2
          go_ret
          exact ⟨retb (EqToV.ne Hx.out Hy.out hxy), _, by rw [World.drewN_drewN]⟩
      · obtain rfl : k = n1 := by omega
        go_wp2
        go_ret
        exact ⟨retb (Hok.out.all e1 e2), d, rfl⟩
  · have HF := Lib.hid (show (l1 == l2) = false by rw [beq_eq_false_iff_ne]; rintro rfl; exact he (e1.symm.trans e2))
    have hb : ((n1 : Int) != (n2 : Int)) = true := by simp; omega
    go_enter Try.func62, Try.ntmps62
    go_wp2
    go_ret
    exact ⟨retb HF.out, 0, rfl⟩
end Go.Proofs.Ytgnedaihchmoaaa
