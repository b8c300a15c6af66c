/-
  firthref04.Same of two rows of int64.
-/
import Derived.Test.YtilagblpamhmkaaMA
import Derived.Test.YtilagblpamhmkaaProg
import Derived.Deep.QuietTactic
import Derived.BigQuiet
namespace Go.Proofs.Ytilagblpamhmkaa
open Go.RowKit
set_option linter.unusedVariables false

def EqToI (a b : List Int) (k : Nat) : Prop := a.take k = b.take k
theorem EqToI.step {a b : List Int} {k : Nat} {x y : Int} (h : EqToI a b k) (hx : a[k]? = some x) (hy : b[k]? = some y) (e : x = y) : EqToI a b (k + 1) := by
  unfold EqToI at *
  rw [List.take_add_one, List.take_add_one, hx, hy, h, e]
theorem EqToI.ne {a b : List Int} {k : Nat} {x y : Int} (hx : a[k]? = some x) (hy : b[k]? = some y) (e : x ≠ y) : (a == b) = false := by
  rw [beq_eq_false_iff_ne]
  rintro rfl
  rw [hx] at hy
  injection hy with hy
  exact e hy
theorem EqToI.all {a b : List Int} {n : Nat} (h : EqToI a b n) (ha : a.length = n) (hb : b.length = n) : (a == b) = true := by
  unfold EqToI at h
  rw [List.take_of_length_le (by omega), List.take_of_length_le (by omega)] at h
  rw [h]; simp
theorem Sl.int_at {w : World} {A : Option Addr} {n k : Nat} {l : List Int} (h : Sl w A n 1 (l.map (Value.int .i64))) (hk : k < n) :
    ∃ b off x, A = some ⟨b, off, none⟩ ∧ l[k]? = some x ∧ w.cell? ⟨b, off + k, none⟩ = some (.int .i64 x) := by
  obtain ⟨b, off, u, rfl, hu, hc⟩ := Sl.at1 h hk
  rw [List.getElem?_map, Option.map_eq_some_iff] at hu
  obtain ⟨z, h1, rfl⟩ := hu
  exact ⟨b, off, z, rfl, h1, hc⟩

set_option maxHeartbeats 1000000 in
set_option maxRecDepth 100000 in
theorem sameI_any (A1 A2 : Option Addr) (n1 n2 c1 c2 : Nat) (l1 l2 : List Int) (w : World) (h1 : Sl w A1 n1 1 (l1.map (Value.int .i64))) (h2 : Sl w A2 n2 1 (l2.map (Value.int .i64))) (hn : n1 ≤ maxLen) :
    Calls Try.prog 19 #[.slice A1 n1 c1, .slice A2 n2 c2] w fun e w' => e = .returned (.bool (l1 == l2)) ∧ ∃ k, w' = w.drewN k := by
  have e1 : l1.length = n1 := by have := h1.1; simpa using this
  have e2 : l2.length = n2 := by have := h2.1; simpa using this
  unfold maxLen at hn
  by_cases he : n1 = n2
  · subst he
    go_enter Try.func19, Try.ntmps19
    go_wp2
    go_loopw [5] (fun i wr => ∃ k : Nat, i = .int .i64 (k : Int) ∧ k ≤ n1 ∧ Hid (EqToI l1 l2 k) ∧ ∃ d, wr = w.drewN d) (fun i _ => n1 - (intOf i).toNat)
    case atStart => exact ⟨0, rfl, Nat.zero_le _, rfl, 0, rfl⟩
    case round =>
      obtain ⟨k, rfl, hk, Hok, d, rfl⟩ := hrel
      by_cases hlt : k < n1
      · obtain ⟨b, off, x, rfl, hx, hc0⟩ := Sl.int_at h1 hlt
        obtain ⟨b', off', y, rfl, hy, hd0⟩ := Sl.int_at h2 hlt
        have Hx := Lib.hid hx
        have Hy := Lib.hid hy
        clear hx hy
        have i0 : (0 : Int) ≤ (k : Int) := by omega
        have i1 : (k : Int) < (n1 : Int) := by omega
        by_cases hxx : x = y
        · subst hxx
          go_wp2
          try go_quiet (fail)
          go_wp2
          go_roundw
          case rel => exact ⟨k + 1, by go_num, by omega, Hok.out.step Hx.out Hy.out rfl, _, rfl⟩
          case measure => simp [intOf]; omega
        · have q : (x == y) = false := beq_eq_false_iff_ne.2 hxx
          have HN := Lib.hid (EqToI.ne Hx.out Hy.out hxx)
          clear hxx
          go_wp2
          try go_quiet (fail)
          go_wp2
          go_ret
          exact ⟨retb HN.out, _, by first | rfl | rw [World.drewN_drewN]⟩
      · obtain rfl : k = n1 := by omega
        go_wp2
        go_ret
        exact ⟨retb (Hok.out.all e1 e2), d, rfl⟩
  · have HF := Lib.hid (show (l1 == l2) = false by rw [beq_eq_false_iff_ne]; rintro rfl; exact he (e1.symm.trans e2))
    have hb : ((n1 : Int) != (n2 : Int)) = true := by simp; omega
    go_enter Try.func19, Try.ntmps19
    go_wp2
    go_ret
    exact ⟨retb HF.out, 0, rfl⟩
end Go.Proofs.Ytilagblpamhmkaa
