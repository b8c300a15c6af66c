/-
  vect.At, firthref04.At and firthref04.Covers.
-/
import Derived.Test.YtjjemoiblbehoaaVectNext
import Derived.Test.YtjjemoiblbehoaaVectCov
namespace Go.Proofs.Ytjjemoiblbehoaa
open Go.RowKit
set_option linter.unusedVariables false

/-- A site's count. -/
def atV (l : List Int) (s : Int) : Int := if 1 ≤ s ∧ s ≤ (l.length : Int) then l.getD (s.toNat - 1) 0 else 0
theorem atV_no {l : List Int} {s : Int} (h : s < 1 ∨ (l.length : Int) < s) : atV l s = 0 := by unfold atV; rw [if_neg (by omega)]
theorem atV_at {l : List Int} {m : Nat} {z : Int} (h1 : 1 ≤ m) (h2 : m ≤ l.length) (hz : l[m - 1]? = some z) : atV l (m : Int) = z := by
  have e : l.getD ((m : Int).toNat - 1) 0 = z := by rw [Int.toNat_natCast, List.getD_eq_getElem?_getD, hz]; rfl
  unfold atV
  rw [if_pos (by omega), e]

set_option maxHeartbeats 400000 in
set_option maxRecDepth 100000 in
theorem at_any (A : Option Addr) (n c : Nat) (l : List Int) (s : Int) (w : World) (hs : SlI w A n l) (hn : n ≤ 140737488351232) :
    Calls Try.prog 17 #[.slice A n c, .int .i64 s] w fun e w' => e = .returned (.int .i64 (atV l s)) ∧ w = w' := by
  have hll := hs.len
  rcases (show s < 1 ∨ (1 ≤ s ∧ (n : Int) < s) ∨ (1 ≤ s ∧ s ≤ (n : Int)) by omega) with h1 | ⟨h1, h2⟩ | ⟨h1, h2⟩
  · have HF := Lib.hid (atV_no (l := l) (s := s) (by omega))
    go_enter Try.func17, Try.ntmps17
    go_wp2
    go_ret
    exact ⟨reti HF.out, rfl⟩
  · have HF := Lib.hid (atV_no (l := l) (s := s) (by omega))
    go_enter Try.func17, Try.ntmps17
    go_wp2
    go_ret
    exact ⟨reti HF.out, rfl⟩
  · obtain ⟨m, rfl⟩ := Int.eq_ofNat_of_zero_le (show 0 ≤ s by omega)
    have h1 : 1 ≤ m := by omega
    have h2 : m ≤ n := by omega
    obtain ⟨b, off, z, rfl, hz, hc0⟩ := hs.at_ (k := m - 1) (by omega)
    have HF := Lib.hid (atV_at h1 (by omega) hz)
    clear hz
    go_enter Try.func17, Try.ntmps17
    go_wp2
    go_ret
    exact ⟨reti HF.out, rfl⟩

set_option maxHeartbeats 400000 in
set_option maxRecDepth 100000 in
theorem refAt_out (A : Option Addr) (n c : Nat) (l : List Int) (s : Int) (w : World) (hs : SlI w A n l) (hn : n ≤ 140737488351232) (h : s < 1 ∨ (n : Int) < s) (hs0 : -9223372036854775808 ≤ s) (hs1 : s ≤ 9223372036854775807) :
    Calls Try.prog 18 #[.slice A n c, .int .i64 s] w fun e w' => e = .returned (.int .i64 0) ∧ w = w' := by
  rcases (show s ≤ -9223372036854775808 ∨ -9223372036854775808 < s by omega) with hm | hm
  · obtain rfl : s = -9223372036854775808 := by omega
    clear h hs0 hs1 hm
    go_enter Try.func18, Try.ntmps18
    go_wp2
    go_loop [5] (fun i => ∃ k : Nat, i = .int .i64 (k : Int) ∧ k ≤ n) (fun i => n - (intOf i).toNat)
    case atStart => exact ⟨0, rfl, Nat.zero_le _⟩
    case round =>
      obtain ⟨k, rfl, hk⟩ := hrel
      by_cases hlt : k < n
      · have hb : ((k : Int) == wrap64 (-9223372036854775809)) = false := by rw [beq_eq_false_iff_ne]; unfold wrap64; omega
        go_wp2
        go_round
        case rel => exact ⟨k + 1, by go_num, by omega⟩
        case measure => simp [intOf]; omega
      · go_wp2
        go_ret
        exact ⟨rfl, rfl⟩
  · have hs2 : -9223372036854775807 ≤ s := by omega
    clear hs0 hm
    go_enter Try.func18, Try.ntmps18
    go_wp2
    go_loop [5] (fun i => ∃ k : Nat, i = .int .i64 (k : Int) ∧ k ≤ n) (fun i => n - (intOf i).toNat)
    case atStart => exact ⟨0, rfl, Nat.zero_le _⟩
    case round =>
      obtain ⟨k, rfl, hk⟩ := hrel
      by_cases hlt : k < n
      · have hb : ((k : Int) == s - 1) = false := beq_eq_false_iff_ne.2 (by omega)
        go_wp2
        go_round
        case rel => exact ⟨k + 1, by go_num, by omega⟩
        case measure => simp [intOf]; omega
      · go_wp2
        go_ret
        exact ⟨rfl, rfl⟩

theorem refAt_any (A : Option Addr) (n c : Nat) (l : List Int) (s : Int) (w : World) (hs : SlI w A n l) (hn : n ≤ 140737488351232) (hs0 : -9223372036854775808 ≤ s) (hs1 : s ≤ 9223372036854775807) :
    Calls Try.prog 18 #[.slice A n c, .int .i64 s] w fun e w' => e = .returned (.int .i64 (atV l s)) ∧ w = w' := by
  have hll := hs.len
  by_cases h : s < 1 ∨ (n : Int) < s
  · rw [atV_no (l := l) (by omega)]
    exact refAt_out A n c l s w hs hn h hs0 hs1
  · obtain ⟨m, rfl⟩ := Int.eq_ofNat_of_zero_le (show 0 ≤ s by omega)
    obtain ⟨b, off, z, e, hz, hc0⟩ := hs.at_ (k := m - 1) (by omega)
    rw [atV_at (by omega) (by omega) hz]
    exact refAt_in A n c m z l w hs (by omega) (by omega) hn hz

set_option maxHeartbeats 1000000 in
set_option maxRecDepth 100000 in
theorem refCovers_in (A : Option Addr) (n c m : Nat) (l : List Int) (z d : Int) (w : World) (hs : SlI w A n l) (hn : n ≤ 140737488351232) (h1 : 1 ≤ m) (h2 : m ≤ n) (hz : l[m - 1]? = some z) :
    Calls Try.prog 20 #[.slice A n c, .agg #[.int .i64 (m : Int), .int .i64 d]] w fun e w' => e = .returned (.bool (decide (1 ≤ d) && decide (d ≤ z))) ∧ Below w.heap.size w w' := by
  have hB : ∀ k, Below w.heap.size w ((w.alloc (.cells #[.int .i64 (m : Int), .int .i64 d] 31)).drewN k) := fun k => below_drewN ((Below.refl _ _).alloc (Nat.le_refl _) _) k
  obtain ⟨b, off, z', rfl, hz', hc⟩ := SlI.at_ (Sl.alloc hs (.cells #[.int .i64 (m : Int), .int .i64 d] 31)) (k := m - 1) (by omega)
  rw [hz] at hz'
  injection hz' with hz'
  subst hz'
  clear hz
  go_enter Try.func20, Try.ntmps20
  go_wp2
  go_loop [5] (fun i => ∃ k : Nat, i = .int .i64 (k : Int) ∧ k ≤ m - 1) (fun i => m - (intOf i).toNat)
  case atStart => exact ⟨0, rfl, Nat.zero_le _⟩
  case round =>
    obtain ⟨k, rfl, hk⟩ := hrel
    by_cases hlt : k < m - 1
    · have hb : ((k : Int) == (m : Int) - 1) = false := beq_eq_false_iff_ne.2 (by omega)
      go_wp2
      go_round
      case rel => exact ⟨k + 1, by go_num, by omega⟩
      case measure => simp [intOf]; omega
    · obtain rfl : k = m - 1 := by omega
      have hb : (((m - 1 : Nat) : Int) == (m : Int) - 1) = true := beq_iff_eq.2 (by omega)
      have j0 : (0 : Int) ≤ ((m - 1 : Nat) : Int) := by omega
      have j1 : ((m - 1 : Nat) : Int) < (n : Int) := by omega
      by_cases hd : 1 ≤ d
      · have q1 : decide (0 < d) = true := by simp; omega
        go_wp2
        go_quiet (fail)
        go_wp2
        go_ret
        exact ⟨retb (by rw [decide_eq_true (show 1 ≤ d by omega)]; rfl), hB _⟩
      · have q1 : decide (0 < d) = false := by simp; omega
        go_wp2
        go_quiet (fail)
        go_wp2
        go_ret
        exact ⟨retb (by rw [decide_eq_false (show ¬ 1 ≤ d by omega)]; rfl), hB _⟩

set_option maxHeartbeats 400000 in
set_option maxRecDepth 100000 in
theorem refCovers_out (A : Option Addr) (n c : Nat) (l : List Int) (s d : Int) (w : World) (hs : SlI w A n l) (hn : n ≤ 140737488351232) (h : s < 1 ∨ (n : Int) < s) (hs0 : -9223372036854775808 ≤ s) (hs1 : s ≤ 9223372036854775807) :
    Calls Try.prog 20 #[.slice A n c, .agg #[.int .i64 s, .int .i64 d]] w fun e w' => e = .returned (.bool false) ∧ Below w.heap.size w w' := by
  rcases (show s ≤ -9223372036854775808 ∨ -9223372036854775808 < s by omega) with hm | hm
  · obtain rfl : s = -9223372036854775808 := by omega
    clear h hs0 hs1 hm
    go_enter Try.func20, Try.ntmps20
    go_wp2
    go_loop [5] (fun i => ∃ k : Nat, i = .int .i64 (k : Int) ∧ k ≤ n) (fun i => n - (intOf i).toNat)
    case atStart => exact ⟨0, rfl, Nat.zero_le _⟩
    case round =>
      obtain ⟨k, rfl, hk⟩ := hrel
      by_cases hlt : k < n
      · have hb : ((k : Int) == wrap64 (-9223372036854775809)) = false := by rw [beq_eq_false_iff_ne]; unfold wrap64; omega
        go_wp2
        go_round
        case rel => exact ⟨k + 1, by go_num, by omega⟩
        case measure => simp [intOf]; omega
      · go_wp2
        go_ret
        exact ⟨rfl, (Below.refl _ _).alloc (Nat.le_refl _) _⟩
  · have hs2 : -9223372036854775807 ≤ s := by omega
    clear hs0 hm
    go_enter Try.func20, Try.ntmps20
    go_wp2
    go_loop [5] (fun i => ∃ k : Nat, i = .int .i64 (k : Int) ∧ k ≤ n) (fun i => n - (intOf i).toNat)
    case atStart => exact ⟨0, rfl, Nat.zero_le _⟩
    case round =>
      obtain ⟨k, rfl, hk⟩ := hrel
      by_cases hlt : k < n
      · have hb : ((k : Int) == s - 1) = false := beq_eq_false_iff_ne.2 (by omega)
        go_wp2
        go_round
        case rel => exact ⟨k + 1, by go_num, by omega⟩
        case measure => simp [intOf]; omega
      · go_wp2
        go_ret
        exact ⟨rfl, (Below.refl _ _).alloc (Nat.le_refl _) _⟩

theorem refCovers_any (A : Option Addr) (n c : Nat) (l : List Int) (s d : Int) (w : World) (hs : SlI w A n l) (hn : n ≤ 140737488351232) (hs0 : -9223372036854775808 ≤ s) (hs1 : s ≤ 9223372036854775807) :
    Calls Try.prog 20 #[.slice A n c, .agg #[.int .i64 s, .int .i64 d]] w fun e w' => e = .returned (.bool (coversB l s d)) ∧ Below w.heap.size w w' := by
  have hll := hs.len
  by_cases h : s < 1 ∨ (n : Int) < s
  · rw [covers_no (l := l) (s := s) (n := d) (by omega)]
    exact refCovers_out A n c l s d w hs hn h hs0 hs1
  · obtain ⟨m, rfl⟩ := Int.eq_ofNat_of_zero_le (show 0 ≤ s by omega)
    obtain ⟨b, off, z, e, hz, hc0⟩ := hs.at_ (k := m - 1) (by omega)
    have hC : coversB l (m : Int) d = (decide (1 ≤ d) && decide (d ≤ z)) := by
      by_cases hd : 1 ≤ d
      · rw [covers_at (by omega) (by omega) hz hd, decide_eq_true hd]; rfl
      · rw [covers_no (by omega), decide_eq_false hd]; rfl
    rw [hC]
    exact refCovers_in A n c m l z d w hs hn (by omega) (by omega) hz
end Go.Proofs.Ytjjemoiblbehoaa
