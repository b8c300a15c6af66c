/-
  vect.Covers and firthref04.Covers tell whether a dot is covered.
-/
import Derived.Test.YtjjemoiblbehoaaVectRight
import Derived.OpenShut
namespace Go.Proofs.Ytjjemoiblbehoaa
open Go.RowKit
set_option linter.unusedVariables false

/-- A dot is covered. -/
def coversB (l : List Int) (s n : Int) : Bool := decide (1 ≤ s) && decide (s ≤ (l.length : Int)) && decide (1 ≤ n) && decide (n ≤ l.getD (s.toNat - 1) 0)

theorem covers_no {l : List Int} {s n : Int} (h : s < 1 ∨ (l.length : Int) < s ∨ n < 1) : coversB l s n = false := by
  unfold coversB
  rcases h with h | h | h
  · rw [decide_eq_false (show ¬ 1 ≤ s by omega)]; rfl
  · rw [decide_eq_false (show ¬ s ≤ (l.length : Int) by omega)]; simp
  · rw [decide_eq_false (show ¬ 1 ≤ n by omega)]; simp
theorem covers_at {l : List Int} {m : Nat} {z n : Int} (h1 : 1 ≤ m) (h2 : m ≤ l.length) (hz : l[m - 1]? = some z) (h3 : 1 ≤ n) : coversB l (m : Int) n = decide (n ≤ z) := by
  have e : l.getD ((m : Int).toNat - 1) 0 = z := by rw [Int.toNat_natCast, List.getD_eq_getElem?_getD, hz]; rfl
  unfold coversB
  rw [e, decide_eq_true (show (1 : Int) ≤ (m : Int) by omega), decide_eq_true (show (m : Int) ≤ (l.length : Int) by omega), decide_eq_true h3]
  simp

set_option maxHeartbeats 1000000 in
set_option maxRecDepth 100000 in
theorem covers_any (A : Option Addr) (n c : Nat) (l : List Int) (s d : Int) (w : World) (hs : SlI w A n l) (hn : n ≤ 140737488351232) (hs0 : -9223372036854775808 ≤ s) :
    Calls Try.prog 19 #[.slice A n c, .agg #[.int .i64 s, .int .i64 d]] w fun e w' => e = .returned (.bool (coversB l s d)) ∧ Below w.heap.size w w' := by
  have hll := hs.len
  have hB : ∀ k, Below w.heap.size w ((w.alloc (.cells #[.int .i64 s, .int .i64 d] 31)).drewN k) := fun k => below_drewN ((Below.refl _ _).alloc (Nat.le_refl _) _) k
  by_cases g1 : 1 ≤ s
  · have q1 : decide (1 ≤ s) = true := by simp; omega
    by_cases g2 : s ≤ (n : Int)
    · obtain ⟨m, rfl⟩ := Int.eq_ofNat_of_zero_le (show 0 ≤ s by omega)
      have q2 : decide (m ≤ n) = true := by simp; omega
      have h1 : 1 ≤ m := by omega
      have h2 : m ≤ n := by omega
      by_cases g3 : 1 ≤ d
      · have q3 : decide (1 ≤ d) = true := by simp; omega
        obtain ⟨b, off, z, rfl, hz, hc0⟩ := SlI.at_ (Sl.alloc hs (.cells #[.int .i64 (m : Int), .int .i64 d] 31)) (k := m - 1) (by omega)
        have HF := Lib.hid (covers_at (n := d) h1 (by omega) hz g3)
        have j0 : (0 : Int) ≤ (m : Int) - 1 := by omega
        have j1 : (m : Int) - 1 < (n : Int) := by omega
        have j2 : ((m : Int) - 1).toNat = m - 1 := by omega
        have j3 : IntKind.i64.wrap ((m : Int) - 1) = (m : Int) - 1 := IntWalk.i64_in _ (by omega)
        clear hz
        go_enter Try.func19, Try.ntmps19
        go_wp2
        go_quiet (fail)
        go_wp2
        go_ret
        exact ⟨retb HF.out, hB _⟩
      · have HF := Lib.hid (covers_no (l := l) (s := (m : Int)) (n := d) (by omega))
        have q3 : decide (1 ≤ d) = false := by simp; omega
        go_enter Try.func19, Try.ntmps19
        go_wp2
        go_quiet (fail)
        go_wp2
        go_ret
        exact ⟨retb HF.out, hB _⟩
    · have HF := Lib.hid (covers_no (l := l) (s := s) (n := d) (by omega))
      have q2 : decide (s ≤ (n : Int)) = false := by simp; omega
      go_enter Try.func19, Try.ntmps19
      go_wp2
      go_quiet (fail)
      go_wp2
      go_ret
      exact ⟨retb HF.out, hB _⟩
  · have HF := Lib.hid (covers_no (l := l) (s := s) (n := d) (by omega))
    have q1 : decide (1 ≤ s) = false := by simp; omega
    go_enter Try.func19, Try.ntmps19
    go_wp2
    go_quiet (fail)
    go_wp2
    go_ret
    exact ⟨retb HF.out, hB _⟩
end Go.Proofs.Ytjjemoiblbehoaa
