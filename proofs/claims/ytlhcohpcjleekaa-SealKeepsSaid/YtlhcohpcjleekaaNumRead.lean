/-
  num.Num and firthref01.Num read a number.
-/
import Derived.Test.YtlhcohpcjleekaaNumLaws
import Derived.Test.YtlhcohpcjleekaaNumPut
import Derived.Deep.LoopGhost
namespace Go.Proofs.Ytlhcohpcjleekaa
open Go.RowKit

/-- Where the loop that reads a number stands: k bytes of L are read, acc is their number. -/
def RdInv (L : List UInt8) (k acc : Nat) : Prop := k ≤ 8 ∧ acc < 128 ^ k ∧ rdN (L.drop k) k acc = rdNum L
theorem RdInv.start (L : List UInt8) : RdInv L 0 0 := ⟨by omega, by simp, by simp [rdNum]⟩


theorem RdInv.cons {L : List UInt8} {k c : Nat} (hl : L[k]? = some (UInt8.ofNat c)) : L.drop k = UInt8.ofNat c :: L.drop (k + 1) := by
  obtain ⟨h, e⟩ := List.getElem?_eq_some_iff.1 hl
  rw [List.drop_eq_getElem_cons h, e]
theorem RdInv.stop {L : List UInt8} {k acc : Nat} (h : RdInv L k acc) (hk : L.length ≤ k) : rdNum L = .error 4 := by
  rw [← h.2.2, List.drop_of_length_le hk]; rfl
theorem RdInv.bad {L : List UInt8} {k acc c : Nat} (h : RdInv L k acc) (hc : c < 256) (hl : L[k]? = some (UInt8.ofNat c)) (hb : (8 ≤ k ∧ 128 ≤ c) ∨ (0 < k ∧ c ≤ 0)) : rdNum L = .error 2 := by
  rw [← h.2.2, RdInv.cons hl]; unfold rdN; rw [byte_toNat c hc, if_pos (by have := h.1; omega)]
theorem RdInv.ok {L : List UInt8} {k acc c : Nat} (h : RdInv L k acc) (hc : c < 256) (hl : L[k]? = some (UInt8.ofNat c)) (hb : ¬ (0 < k ∧ c ≤ 0)) (h1 : c < 128) : rdNum L = .ok (acc + c * 128 ^ k, k + 1) := by
  rw [← h.2.2, RdInv.cons hl]; unfold rdN; rw [byte_toNat c hc, if_neg (by omega), if_pos h1]
theorem RdInv.go {L : List UInt8} {k acc c : Nat} (h : RdInv L k acc) (hc : c < 256) (hl : L[k]? = some (UInt8.ofNat c)) (hb : k < 8) (h1 : 128 ≤ c) : RdInv L (k + 1) (acc + c % 128 * 128 ^ k) := by
  refine ⟨by omega, ?_, ?_⟩
  · have h2 := h.2.1
    have h4 : 128 ^ (k + 1) = 128 ^ k * 128 := Nat.pow_succ ..
    have h5 : c % 128 * 128 ^ k ≤ 127 * 128 ^ k := Nat.mul_le_mul_right _ (by omega)
    omega
  · rw [← h.2.2, RdInv.cons hl]; conv => rhs; unfold rdN
    rw [byte_toNat c hc, if_neg (by omega), if_neg (by omega)]

def numVal (at_ : Nat) : Except Int (Nat × Nat) → Value
  | .ok (n, k) => .tuple #[.int .i64 (n : Int), .int .i64 ((at_ + k : Nat) : Int), .int .i64 0]
  | .error x => .tuple #[.int .i64 0, .int .i64 0, .int .i64 x]
/-- What a call answers that reads a number and changes nothing. -/
def NumAns (w : World) (at_ : Nat) (r : Except Int (Nat × Nat)) (e : Ending) (w' : World) : Prop := e = .returned (numVal at_ r) ∧ w = w'

theorem pow_7 (k : Nat) : (2 : Nat) ^ (7 * k) = 128 ^ k := by rw [Nat.pow_mul]
theorem small_128 {y k : Nat} (hy : y < 128) (hk : k ≤ 8) : y * 128 ^ k < 9223372036854775808 := by
  have h1 : y * 128 ^ k ≤ 127 * 128 ^ 8 := Nat.mul_le_mul (by omega) (Nat.pow_le_pow_right (by omega) hk)
  have h2 : (127 : Nat) * 128 ^ 8 < 9223372036854775808 := by decide
  omega
theorem small_acc {acc k : Nat} (h : acc < 128 ^ k) (hk : k ≤ 8) : acc < 72057594037927936 := by
  have h1 : (128 : Nat) ^ k ≤ 128 ^ 8 := Nat.pow_le_pow_right (by omega) hk
  have h2 : (128 : Nat) ^ 8 = 72057594037927936 := by decide
  omega
theorem shl_7 {y k : Nat} (hy : y < 128) (hk : k ≤ 8) : IntKind.u64.wrap ((y : Int) * 2 ^ (7 * k)) = ((y * 128 ^ k : Nat) : Int) := by
  have h1 := small_128 hy hk
  have e : (y : Int) * 2 ^ (7 * k) = ((y * 128 ^ k : Nat) : Int) := by
    rw [← pow_7]; push_cast; rfl
  rw [e, IntKind.wrap_u64]
  omega
theorem or_sum {acc y k : Nat} (h : acc < 128 ^ k) : acc ||| y * 128 ^ k = acc + y * 128 ^ k := by
  rw [← pow_7] at h ⊢
  have := Nat.two_pow_add_eq_or_of_lt h y
  rw [Nat.or_comm, Nat.mul_comm y, ← this]
  omega
theorem or_shl {acc y k : Nat} (hy : y < 128) (hk : k ≤ 8) (h : acc < 128 ^ k) :
    bits .or .u64 (acc : Int) (IntKind.u64.wrap ((y : Int) * 2 ^ (7 * k))) = ((acc + y * 128 ^ k : Nat) : Int) := by
  have h1 := small_128 hy hk
  have h2 := small_acc h hk
  rw [shl_7 hy hk, u64_or_nat _ _ (by omega) (by omega), or_sum h]
theorem wrap_or_shl {acc y k : Nat} (hy : y < 128) (hk : k ≤ 8) (h : acc < 128 ^ k) :
    wrap64 (bits .or .u64 (acc : Int) (IntKind.u64.wrap ((y : Int) * 2 ^ (7 * k)))) = ((acc + y * 128 ^ k : Nat) : Int) := by
  have h1 : acc + y * 128 ^ k < 9223372036854775808 := by
    have h2 : 127 * 128 ^ k + 128 ^ k ≤ 128 * 128 ^ 8 := by
      have : (128 : Nat) ^ k ≤ 128 ^ 8 := Nat.pow_le_pow_right (by omega) hk
      omega
    have h3 : y * 128 ^ k ≤ 127 * 128 ^ k := Nat.mul_le_mul_right _ (by omega)
    have h4 : (128 : Nat) * 128 ^ 8 = 9223372036854775808 := by decide
    omega
  rw [or_shl hy hk h]
  exact IntWalk.wrap64_in _ (by omega)
theorem num_ok_val {acc x k at_ : Nat} (hy : x < 128) (hk : k ≤ 8) (h : acc < 128 ^ k) :
    (Value.tuple #[.int .i64 (wrap64 (bits .or .u64 (acc : Int) (IntKind.u64.wrap ((x : Int) * 2 ^ (7 * k))))), .int .i64 ((at_ : Int) + k + 1), .int .i64 0]) = numVal at_ (.ok (acc + x * 128 ^ k, k + 1)) := by
  rw [wrap_or_shl hy hk h]
  simp only [numVal]
  congr 3
theorem and_127_u8 {x : Nat} (h : x < 256) : bits .and .u8 (x : Int) 127 = ((x % 128 : Nat) : Int) := by
  have := u8_and_nat x 127 h (by omega)
  rw [and_127 x h] at this
  exact this
theorem num_go_val {acc x k : Nat} (hx : x < 256) (hk : k ≤ 8) (h : acc < 128 ^ k) :
    bits .or .u64 (acc : Int) (IntKind.u64.wrap (IntKind.u64.wrap (bits .and .u8 (x : Int) 127) * 2 ^ (7 * k))) = ((acc + x % 128 * 128 ^ k : Nat) : Int) := by
  rw [and_127_u8 hx, show IntKind.u64.wrap ((x % 128 : Nat) : Int) = ((x % 128 : Nat) : Int) by rw [IntKind.wrap_u64]; omega]
  exact or_shl (by omega) hk h
theorem num_ok_end {L : List UInt8} {acc x k at_ : Nat} (h : RdInv L k acc) (hc : x < 256) (hl : L[k]? = some (UInt8.ofNat x)) (hb : ¬ (0 < k ∧ x ≤ 0)) (h1 : x < 128) :
    (Value.tuple #[.int .i64 (wrap64 (bits .or .u64 (acc : Int) (IntKind.u64.wrap ((x : Int) * 2 ^ (7 * k))))), .int .i64 ((at_ : Int) + k + 1), .int .i64 0]) = numVal at_ (rdNum L) := by
  rw [h.ok hc hl hb h1]; exact num_ok_val h1 h.1 h.2.1
theorem num_ok_end8 {L : List UInt8} {acc x k at_ : Nat} (h : RdInv L k acc) (hc : x < 256) (hl : L[k]? = some (UInt8.ofNat x)) (hb : ¬ (0 < k ∧ x ≤ 0)) (h1 : x < 128) (hk : 8 ≤ k) :
    (Value.tuple #[.int .i64 (wrap64 (bits .or .u64 (acc : Int) ((x : Int) * 72057594037927936))), .int .i64 ((at_ : Int) + 8 + 1), .int .i64 0]) = numVal at_ (rdNum L) := by
  obtain rfl : k = 8 := by have := h.1; omega
  rw [← num_ok_end (at_ := at_) h hc hl hb h1, shl_7 h1 (Nat.le_refl _)]
  have e : (x : Int) * 72057594037927936 = ((x * 128 ^ 8 : Nat) : Int) := by omega
  rw [e]
  rfl
theorem num_bad_end {L : List UInt8} {acc x k at_ : Nat} (h : RdInv L k acc) (hc : x < 256) (hl : L[k]? = some (UInt8.ofNat x)) (hb : (8 ≤ k ∧ 128 ≤ x) ∨ (0 < k ∧ x ≤ 0)) :
    (Value.tuple #[.int .i64 0, .int .i64 0, .int .i64 2]) = numVal at_ (rdNum L) := by
  rw [h.bad hc hl hb]; rfl

set_option maxHeartbeats 4000000 in
set_option maxRecDepth 100000 in
theorem num_in (A : Option Addr) (n c at_ : Nat) (l : List UInt8) (w : World) (hs : SlB w A n l) (hc : n ≤ c) (hcap : n ≤ 140737488351232) (hat : at_ < n) :
    Calls Try.prog 28 #[.slice A n c, .int .i64 (at_ : Int)] w (NumAns w at_ (rdNum (l.drop at_))) := by
  have hll := hs.len
  obtain ⟨b, off, -, rfl, -, -, -⟩ := hs.at_ hat
  have hne : ¬ c = at_ := by omega
  go_enter Try.func28, Try.ntmps28
  go_wp2
  go_step3
  go_wp2
  go_step3
  go_wp2
  go_loop [7, 8, 23] (fun e x i => ∃ (k acc : Nat), e = .int .i64 4 ∧ x = .int .u64 (acc : Int) ∧ i = .int .i64 (k : Int) ∧ k ≤ 8 ∧ k ≤ n - at_ ∧ Hid (RdInv (l.drop at_) k acc)) (fun _ _ i => n - (intOf i).toNat)
  case atStart => exact ⟨0, 0, rfl, rfl, rfl, by omega, by omega, RdInv.start _⟩
  case round =>
    obtain ⟨k, acc, rfl, rfl, rfl, hk8, hkn, Hinv⟩ := hrel
    by_cases hlt : k < n - at_
    · obtain ⟨b', off', x, hA, hx, hlx, hcell⟩ := hs.at_ (k := at_ + k) (by omega)
      injection hA with hA
      injection hA with hb' ho'
      subst hb' ho'
      rw [← List.getElem?_drop] at hlx
      have Hl := Lib.hid hlx
      clear hlx
      rw [show off + (at_ + k) = off + at_ + k from by omega] at hcell
      have hcases : ((8 ≤ k ∧ 128 ≤ x) ∨ (0 < k ∧ x ≤ 0)) ∨ (¬ (0 < k ∧ x ≤ 0) ∧ x < 128) ∨ (k < 8 ∧ 128 ≤ x) := by omega
      have hkc : k ≤ 0 ∨ (0 < k ∧ k < 8) ∨ (0 < k ∧ 8 ≤ k) := by omega
      have hxc : x ≤ 0 ∨ (0 < x ∧ x < 128) ∨ 128 ≤ x := by omega
      clear hcases
      rcases hkc with hk0 | ⟨hk0, hk1⟩ | ⟨hk0, hk1⟩ <;> rcases hxc with hx0 | ⟨hx0, hx1⟩ | hx0
      · go_wp2
        go_ret3
        exact ⟨congrArg Ending.returned (num_ok_end Hinv.out hx Hl.out (by omega) (by omega)), rfl⟩
      · go_wp2
        go_ret3
        exact ⟨congrArg Ending.returned (num_ok_end Hinv.out hx Hl.out (by omega) (by omega)), rfl⟩
      · go_wp2
        refine ⟨⟨_, _, _, _, _, _, _, _, ⟨rfl, k + 1, acc + x % 128 * 128 ^ k, ?_, rfl, by omega, by omega, Hinv.out.go hx Hl.out (by omega) (by omega)⟩, rfl, rfl, rfl, rfl, rfl, rfl, rfl, rfl⟩, ?_⟩
        · rw [num_go_val hx hk8 Hinv.out.2.1]
        · simp [intOf]; omega
      · go_wp2
        all_goals
          go_ret3
          exact ⟨congrArg Ending.returned (num_bad_end Hinv.out hx Hl.out (by omega)), rfl⟩
      · go_wp2
        go_ret3
        exact ⟨congrArg Ending.returned (num_ok_end Hinv.out hx Hl.out (by omega) (by omega)), rfl⟩
      · go_wp2
        refine ⟨⟨_, _, _, _, _, _, _, _, ⟨rfl, k + 1, acc + x % 128 * 128 ^ k, ?_, rfl, by omega, by omega, Hinv.out.go hx Hl.out (by omega) (by omega)⟩, rfl, rfl, rfl, rfl, rfl, rfl, rfl, rfl⟩, ?_⟩
        · rw [num_go_val hx hk8 Hinv.out.2.1]
        · simp [intOf]; omega
      · go_wp2
        all_goals
          go_ret3
          exact ⟨congrArg Ending.returned (num_bad_end Hinv.out hx Hl.out (by omega)), rfl⟩
      · go_wp2
        go_ret3
        exact ⟨congrArg Ending.returned (num_ok_end8 Hinv.out hx Hl.out (by omega) (by omega) (by omega)), rfl⟩
      · go_wp2
        all_goals
          go_ret3
          exact ⟨congrArg Ending.returned (num_bad_end Hinv.out hx Hl.out (by omega)), rfl⟩
    · go_wp2
      go_ret3
      exact ⟨by rw [Hinv.out.stop (by simp; omega)]; rfl, rfl⟩
end Go.Proofs.Ytlhcohpcjleekaa
