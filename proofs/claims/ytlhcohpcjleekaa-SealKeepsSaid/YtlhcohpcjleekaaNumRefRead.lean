/-
  firthref01.Num reads a number.
-/
import Derived.Test.YtlhcohpcjleekaaNumRead
namespace Go.Proofs.Ytlhcohpcjleekaa
open Go.RowKit
set_option linter.unusedVariables false

theorem ref_acc {acc x k o : Nat} (hk : k ≤ 8) (h : acc < 128 ^ k) (ho : o = 128 ^ k) :
    wrap64 ((acc : Int) + wrap64 ((x : Int) % 128 * (o : Int))) = ((acc + x % 128 * 128 ^ k : Nat) : Int) := by
  subst ho
  obtain ⟨y, hy⟩ : ∃ y, y = x % 128 * 128 ^ k := ⟨_, rfl⟩
  have e : (x : Int) % 128 * ((128 ^ k : Nat) : Int) = (y : Int) := by rw [hy]; push_cast; rfl
  have h3 : acc + y < 9223372036854775808 := by
    have h4 : 128 ^ k ≤ 128 ^ 8 := Nat.pow_le_pow_right (by omega) hk
    have h5 : y ≤ 127 * 128 ^ k := by rw [hy]; exact Nat.mul_le_mul_right _ (by omega)
    have h6 : (128 : Nat) * 128 ^ 8 = 9223372036854775808 := by decide
    omega
  rw [← hy, e, IntWalk.wrap64_in (y : Int) (by omega), IntWalk.wrap64_in _ (by omega)]
  push_cast
  rfl
theorem ref_one {k o : Nat} (hk : k < 8) (ho : o = 128 ^ k) : wrap64 ((o : Int) * 128) = ((128 ^ (k + 1) : Nat) : Int) ∧ 128 ^ (k + 1) ≤ 72057594037927936 := by
  have h1 : (128 : Nat) ^ (k + 1) ≤ 128 ^ 8 := Nat.pow_le_pow_right (by omega) (by omega)
  have h2 : (128 : Nat) ^ 8 = 72057594037927936 := by decide
  have h3 : (128 : Nat) ^ (k + 1) = 128 ^ k * 128 := Nat.pow_succ ..
  have e : (o : Int) * 128 = ((128 ^ (k + 1) : Nat) : Int) := by rw [h3, ho]; push_cast; rfl
  rw [e]
  refine ⟨?_, by omega⟩
  generalize (128 : Nat) ^ (k + 1) = y at *
  rw [IntWalk.wrap64_in _ (by omega)]
theorem ref_ok_end {L : List UInt8} {acc x k o at_ : Nat} (h : RdInv L k acc) (ho : o = 128 ^ k) (hc : x < 256) (hl : L[k]? = some (UInt8.ofNat x)) (hb : ¬ (0 < k ∧ x ≤ 0)) (h1 : x < 128) :
    (Value.tuple #[.int .i64 (wrap64 ((acc : Int) + wrap64 ((x : Int) % 128 * (o : Int)))), .int .i64 ((at_ : Int) + k + 1), .int .i64 0]) = numVal at_ (rdNum L) := by
  rw [h.ok hc hl hb h1, ref_acc h.1 h.2.1 ho, Nat.mod_eq_of_lt h1]
  simp only [numVal]
  congr 3
theorem ref_ok_end8 {L : List UInt8} {acc x k o at_ : Nat} (h : RdInv L k acc) (ho : o = 128 ^ k) (hc : x < 256) (hl : L[k]? = some (UInt8.ofNat x)) (hb : ¬ (0 < k ∧ x ≤ 0)) (h1 : x < 128) (hk : 8 ≤ k) :
    (Value.tuple #[.int .i64 (wrap64 ((acc : Int) + wrap64 ((x : Int) % 128 * (o : Int)))), .int .i64 ((at_ : Int) + 8 + 1), .int .i64 0]) = numVal at_ (rdNum L) := by
  obtain rfl : k = 8 := by have := h.1; omega
  exact ref_ok_end h ho hc hl hb h1

set_option maxHeartbeats 4000000 in
set_option maxRecDepth 100000 in
theorem refNum_in (A : Option Addr) (n c at_ : Nat) (l : List UInt8) (w : World) (hs : SlB w A n l) (hc : n ≤ c) (hcap : n ≤ 140737488351232) (hat : at_ ≤ n) :
    Calls Try.prog 30 #[.slice A n c, .int .i64 (at_ : Int)] w (NumAns w at_ (rdNum (l.drop at_))) := by
  have hll := hs.len
  go_enter Try.func30, Try.ntmps30
  go_wp2
  go_loop [1, 7, 8, 9] (fun a x o i => ∃ (k acc o' : Nat), a = .int .i64 ((at_ : Int) + (k : Int)) ∧ x = .int .i64 (acc : Int) ∧ o = .int .i64 (o' : Int) ∧ i = .int .i64 (k : Int) ∧ k ≤ 8 ∧ at_ + k ≤ n ∧ o' ≤ 72057594037927936 ∧ Hid (o' = 128 ^ k) ∧ Hid (RdInv (l.drop at_) k acc)) (fun _ _ _ i => n - (intOf i).toNat)
  case atStart => exact ⟨0, 0, 1, by simp, rfl, rfl, rfl, by omega, by omega, by omega, rfl, RdInv.start _⟩
  case round =>
    obtain ⟨k, acc, o, rfl, rfl, rfl, rfl, hk8, hkn, ho8, Ho, Hinv⟩ := hrel
    by_cases hlt : at_ + k < n
    · obtain ⟨b, off, x, rfl, hx, hlx, hcell⟩ := hs.at_ (k := at_ + k) (by omega)
      rw [← List.getElem?_drop] at hlx
      have Hl := Lib.hid hlx
      clear hlx
      have hkc : k ≤ 0 ∨ (0 < k ∧ k < 8) ∨ (0 < k ∧ 8 ≤ k) := by omega
      have hxc : x ≤ 0 ∨ (0 < x ∧ x < 128) ∨ 128 ≤ x := by omega
      rcases hkc with hk0 | ⟨hk0, hk1⟩ | ⟨hk0, hk1⟩ <;> rcases hxc with hx0 | ⟨hx0, hx1⟩ | hx0
      · have q1 : ((x : Int) == 0) = true := beq_iff_eq.2 (by omega)
        go_wp2
        all_goals go_ret3
        all_goals exact ⟨congrArg Ending.returned (ref_ok_end Hinv.out Ho.out hx Hl.out (by omega) (by omega)), rfl⟩
      · have q1 : ((x : Int) == 0) = false := beq_eq_false_iff_ne.2 (by omega)
        go_wp2
        all_goals go_ret3
        all_goals exact ⟨congrArg Ending.returned (ref_ok_end Hinv.out Ho.out hx Hl.out (by omega) (by omega)), rfl⟩
      · have q1 : ((x : Int) == 0) = false := beq_eq_false_iff_ne.2 (by omega)
        go_wp2
        go_round
        case rel => exact ⟨k + 1, acc + x % 128 * 128 ^ k, 128 ^ (k + 1), by go_num, by rw [ref_acc hk8 Hinv.out.2.1 Ho.out], by rw [(ref_one (by omega) Ho.out).1], by go_num, by omega, by omega, (ref_one (by omega) Ho.out).2, rfl, Hinv.out.go hx Hl.out (by omega) (by omega)⟩
        case measure => simp [intOf]; omega
      · have q1 : ((x : Int) == 0) = true := beq_iff_eq.2 (by omega)
        go_wp2
        all_goals
          go_ret3
          exact ⟨congrArg Ending.returned (num_bad_end Hinv.out hx Hl.out (by omega)), rfl⟩
      · have q1 : ((x : Int) == 0) = false := beq_eq_false_iff_ne.2 (by omega)
        go_wp2
        all_goals go_ret3
        all_goals exact ⟨congrArg Ending.returned (ref_ok_end Hinv.out Ho.out hx Hl.out (by omega) (by omega)), rfl⟩
      · have q1 : ((x : Int) == 0) = false := beq_eq_false_iff_ne.2 (by omega)
        go_wp2
        go_round
        case rel => exact ⟨k + 1, acc + x % 128 * 128 ^ k, 128 ^ (k + 1), by go_num, by rw [ref_acc hk8 Hinv.out.2.1 Ho.out], by rw [(ref_one (by omega) Ho.out).1], by go_num, by omega, by omega, (ref_one (by omega) Ho.out).2, rfl, Hinv.out.go hx Hl.out (by omega) (by omega)⟩
        case measure => simp [intOf]; omega
      · have q1 : ((x : Int) == 0) = true := beq_iff_eq.2 (by omega)
        go_wp2
        all_goals
          go_ret3
          exact ⟨congrArg Ending.returned (num_bad_end Hinv.out hx Hl.out (by omega)), rfl⟩
      · have q1 : ((x : Int) == 0) = false := beq_eq_false_iff_ne.2 (by omega)
        go_wp2
        all_goals go_ret3
        all_goals exact ⟨congrArg Ending.returned (ref_ok_end8 Hinv.out Ho.out hx Hl.out (by omega) (by omega) (by omega)), rfl⟩
      · have q1 : ((x : Int) == 0) = false := beq_eq_false_iff_ne.2 (by omega)
        go_wp2
        all_goals
          go_ret3
          exact ⟨congrArg Ending.returned (num_bad_end Hinv.out hx Hl.out (by omega)), rfl⟩
    · go_wp2
      go_ret3
      exact ⟨by rw [Hinv.out.stop (by simp; omega)]; rfl, rfl⟩
end Go.Proofs.Ytlhcohpcjleekaa
