/-
  Layer 1 in plain Lean: a number's bytes, reading them back. No program is looked at here.
-/
import Derived.Test.YtcdbpimpmhfkhaaBase
namespace Go.Proofs.Ytcdbpimpmhfkhaa

/-- A number's bytes, seven bits each, the lowest first; at most f + 1 of them. -/
def putN : Nat → Nat → List UInt8
  | 0, u => [UInt8.ofNat u]
  | f + 1, u => if u < 128 then [UInt8.ofNat u] else UInt8.ofNat (u % 128 + 128) :: putN f (u / 128)
/-- The bytes of a Go number: what is below 0 counts as 0. -/
def putNum (n : Int) : List UInt8 := putN 8 n.toNat

theorem putN_len (f u : Nat) : 1 ≤ (putN f u).length ∧ (putN f u).length ≤ f + 1 := by
  induction f generalizing u with
  | zero => simp [putN]
  | succ f ih =>
    unfold putN
    split
    · simp
    · have := ih (u / 128); simp; omega
theorem putNum_len (n : Int) : 1 ≤ (putNum n).length ∧ (putNum n).length ≤ 9 := putN_len 8 _

/-- Where the loop of PutNum stands: acc is written, m is left. -/
def PutInv (N : Nat) (acc : List UInt8) (m : Nat) : Prop :=
  ∃ f, acc.length + f ≤ 8 ∧ m < 128 ^ (f + 1) ∧ acc ++ putN f m = putN 8 N
theorem PutInv.start {N : Nat} (h : N < 9223372036854775808) : PutInv N [] N := ⟨8, by simp, by simpa using h, rfl⟩
theorem PutInv.step {N m : Nat} {acc : List UInt8} (h : PutInv N acc m) (hm : 128 ≤ m) : PutInv N (acc ++ [UInt8.ofNat (m % 128 + 128)]) (m / 128) := by
  obtain ⟨f, h1, h2, h3⟩ := h
  match f, h1, h2, h3 with
  | 0, h1, h2, h3 => simp at h2; omega
  | f + 1, h1, h2, h3 =>
    refine ⟨f, by simp; omega, ?_, ?_⟩
    · have h4 : 128 ^ (f + 1 + 1) = 128 ^ (f + 1) * 128 := Nat.pow_succ ..
      rw [Nat.div_lt_iff_lt_mul (by omega)]; omega
    · rw [← h3, List.append_assoc, List.singleton_append]
      congr 1
      conv => rhs; unfold putN
      rw [if_neg (by omega)]
theorem PutInv.stop {N m : Nat} {acc : List UInt8} (h : PutInv N acc m) (hm : m < 128) : acc ++ [UInt8.ofNat m] = putN 8 N := by
  obtain ⟨f, _, _, h3⟩ := h
  rw [← h3]
  congr 1
  cases f with
  | zero => rfl
  | succ f => unfold putN; rw [if_pos hm]
theorem PutInv.len {N m : Nat} {acc : List UInt8} (h : PutInv N acc m) : acc.length ≤ 8 := by obtain ⟨f, h1, _, _⟩ := h; omega

theorem or_128 : ∀ x : Nat, x < 256 → x ||| 128 = x % 128 + 128 := by decide +kernel
theorem and_127 : ∀ x : Nat, x < 256 → x &&& 127 = x % 128 := by decide +kernel

/-! ### Reading a number -/
/-- What is read of the bytes l as a number: the i-th byte stands next, acc is read; the number and how many bytes, or the error's number. -/
def rdN : List UInt8 → Nat → Nat → Except Int (Nat × Nat)
  | [], _, _ => .error 4
  | c :: r, i, acc =>
    if (i = 8 ∧ 127 < c.toNat) ∨ (0 < i ∧ c.toNat = 0) then .error 2
    else if c.toNat < 128 then .ok (acc + c.toNat * 128 ^ i, i + 1)
    else rdN r (i + 1) (acc + c.toNat % 128 * 128 ^ i)
def rdNum (l : List UInt8) : Except Int (Nat × Nat) := rdN l 0 0

end Go.Proofs.Ytcdbpimpmhfkhaa
