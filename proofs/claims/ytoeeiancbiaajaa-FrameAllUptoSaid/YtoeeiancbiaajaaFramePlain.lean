/-
  Layer 2 in plain Lean: the check sum, a frame's bytes, taking a frame apart. No program is looked at here.
-/
import Derived.Test.YtoeeiancbiaajaaNumLaws
import Derived.Laws.BitsAllLaws
namespace Go.Proofs.Ytoeeiancbiaajaa
set_option linter.unusedVariables false

/-- One bit of the sum's register. -/
def crcBit (r : Nat) : Nat := if r % 2 = 1 then (r / 2) ^^^ 3988292384 else r / 2
def crcIt : Nat → Nat → Nat
  | 0, r => r
  | k + 1, r => crcBit (crcIt k r)
/-- One byte. -/
def crcC (r : Nat) (c : UInt8) : Nat := crcIt 8 (r ^^^ c.toNat)
def crcL (r : Nat) (l : List UInt8) : Nat := l.foldl crcC r
/-- The check sum of bytes. -/
def sumB (l : List UInt8) : Nat := crcL 4294967295 l ^^^ 4294967295

theorem xor_lt32 {a b : Nat} (ha : a < 4294967296) (hb : b < 4294967296) : a ^^^ b < 4294967296 := Nat.xor_lt_two_pow (n := 32) ha hb
theorem crcBit_lt {r : Nat} (h : r < 4294967296) : crcBit r < 4294967296 := by
  unfold crcBit
  split
  · exact xor_lt32 (by omega) (by omega)
  · omega
theorem crcIt_lt : ∀ {k r : Nat}, r < 4294967296 → crcIt k r < 4294967296
  | 0, _, h => h
  | k + 1, _, h => crcBit_lt (crcIt_lt (k := k) h)
theorem crcC_lt {r : Nat} (h : r < 4294967296) (c : UInt8) : crcC r c < 4294967296 := crcIt_lt (xor_lt32 h (by have := UInt8.toNat_lt c; omega))
theorem crcL_lt : ∀ {l : List UInt8} {r : Nat}, r < 4294967296 → crcL r l < 4294967296
  | [], _, h => h
  | c :: l, _, h => crcL_lt (l := l) (crcC_lt h c)
theorem sumB_lt (l : List UInt8) : sumB l < 4294967296 := xor_lt32 (crcL_lt (by omega)) (by omega)
theorem crcL_append (r : Nat) (a b : List UInt8) : crcL r (a ++ b) = crcL (crcL r a) b := by unfold crcL; rw [List.foldl_append]
theorem crcL_snoc {r : Nat} {l : List UInt8} {k : Nat} {c : UInt8} (h : l[k]? = some c) : crcL r (l.take (k + 1)) = crcC (crcL r (l.take k)) c := by
  rw [List.take_add_one, h, crcL_append]; rfl

theorem crcBit_odd {r : Nat} (h : r % 2 = 1) : crcBit r = (r / 2) ^^^ 3988292384 := if_pos h
theorem crcBit_even {r : Nat} (h : r % 2 = 0) : crcBit r = r / 2 := if_neg (by omega)

/-! The model's own words on 32 bits. -/
theorem b_and1 {r : Nat} (h : r < 4294967296) : bits .and .u32 (r : Int) 1 = ((r % 2 : Nat) : Int) := by
  rw [show (1 : Int) = ((1 : Nat) : Int) from rfl, u32_and_nat r 1 h (by omega), Nat.and_one_is_mod]
theorem b_mask1 : bits .and .u32 3988292384 4294967295 = 3988292384 := by decide
theorem b_mask0 : bits .and .u32 3988292384 0 = 0 := by decide
theorem b_xor0 {r : Nat} (h : r < 4294967296) : bits .xor .u32 (r : Int) 0 = (r : Int) := by
  rw [show (0 : Int) = ((0 : Nat) : Int) from rfl, u32_xor_nat r 0 h (by omega), Nat.xor_zero]
theorem b_xorC {r : Nat} (h : r < 4294967296) : bits .xor .u32 (r : Int) 3988292384 = ((r ^^^ 3988292384 : Nat) : Int) := by
  rw [show (3988292384 : Int) = ((3988292384 : Nat) : Int) from rfl, u32_xor_nat r _ h (by omega)]
theorem b_xorF {r : Nat} (h : r < 4294967296) : bits .xor .u32 (r : Int) 4294967295 = ((r ^^^ 4294967295 : Nat) : Int) := by
  rw [show (4294967295 : Int) = ((4294967295 : Nat) : Int) from rfl, u32_xor_nat r _ h (by omega)]
theorem b_xorF' {r : Nat} (h : r < 4294967296) : bits .xor .u32 4294967295 (r : Int) = ((r ^^^ 4294967295 : Nat) : Int) := by
  rw [show (4294967295 : Int) = ((4294967295 : Nat) : Int) from rfl, u32_xor_nat _ r (by omega) h, Nat.xor_comm]
theorem b_xorB {r c : Nat} (h : r < 4294967296) (hc : c < 256) : bits .xor .u32 (r : Int) (c : Int) = ((r ^^^ c : Nat) : Int) := u32_xor_nat r c h (by omega)

/-! ### Frames -/
/-- Four bytes, the lowest first. -/
def le4 (s : Nat) : List UInt8 := [UInt8.ofNat (s % 256), UInt8.ofNat (s / 256 % 256), UInt8.ofNat (s / 65536 % 256), UInt8.ofNat (s / 16777216 % 256)]
/-- A frame: how many bytes, the sum, the bytes. -/
def putF (b : List UInt8) : List UInt8 := putNum b.length ++ le4 (sumB (putNum b.length ++ b)) ++ b
theorem le4_len (s : Nat) : (le4 s).length = 4 := rfl
theorem putF_len (b : List UInt8) : (putF b).length = (putNum b.length).length + 4 + b.length := by simp [putF, le4_len]; omega
/-- What is read of the bytes l at a place, as a frame: what is within and the place behind, or the error's number. -/
def nextF (l : List UInt8) (at_ : Nat) : Except Int (List UInt8 × Nat) :=
  match rdNum (l.drop at_) with
  | .error x => .error x
  | .ok (n, k) =>
    if 1048576 < n then .error 3
    else if l.length < at_ + k + n + 4 then .error 4
    else if le4 (sumB ((l.drop at_).take k ++ (l.drop (at_ + k + 4)).take n)) = (l.drop (at_ + k)).take 4 then .ok ((l.drop (at_ + k + 4)).take n, at_ + k + 4 + n)
    else .error 20

theorem rdNum_put {l : List UInt8} {n k : Nat} (h : rdNum l = .ok (n, k)) : l.take k = putNum n := by
  have := (rdNum_ok h).2.2.2.2
  rw [this]
  simp [putNum]
/-- What is read as a frame is a frame's bytes. -/
theorem nextF_ok {l : List UInt8} {at_ : Nat} {b : List UInt8} {e : Nat} (h : nextF l at_ = .ok (b, e)) : b.length ≤ 1048576 ∧ e ≤ l.length ∧ e = at_ + (putF b).length ∧ (l.drop at_).take (putF b).length = putF b := by
  unfold nextF at h
  split at h
  · cases h
  · rename_i n k hr
    split at h
    · cases h
    · split at h
      · cases h
      · split at h
        · rename_i h1 h2 h3
          injection h with h
          injection h with e1 e2
          subst e1 e2
          have hk := rdNum_ok hr
          have hb : ((l.drop (at_ + k + 4)).take n).length = n := by simp; omega
          have hp := rdNum_put hr
          have hpl : (putNum (n : Int)).length = k := by rw [← hp, List.length_take]; exact Nat.min_eq_left hk.2.2.1
          have hF : (putF ((l.drop (at_ + k + 4)).take n)).length = k + 4 + n := by rw [putF_len, hb, hpl]
          refine ⟨by omega, by omega, by rw [hF]; omega, ?_⟩
          rw [hF]
          unfold putF
          rw [hb, ← hp, h3]
          rw [show k + 4 + n = k + (4 + n) by omega, List.take_add, List.drop_drop, List.take_add, List.drop_drop]
          simp [List.append_assoc]
        · cases h
/-- A frame's bytes are read as that frame, whatever stands behind. -/
theorem nextF_put {b : List UInt8} (hb : b.length ≤ 1048576) (l rest : List UInt8) (at_ : Nat) (h : l.drop at_ = putF b ++ rest) (ha : at_ ≤ l.length) : nextF l at_ = .ok (b, at_ + (putF b).length) := by
  have hll : l.length = at_ + (putF b).length + rest.length := by
    have := congrArg List.length h
    simp at this
    omega
  have hr : rdNum (l.drop at_) = .ok (b.length, (putNum (b.length : Int)).length) := by
    rw [h]
    unfold putF
    rw [List.append_assoc, List.append_assoc]
    have := rdNum_putNum b.length (by omega) (le4 (sumB (putNum b.length ++ b)) ++ (b ++ rest))
    simpa [putNum] using this
  have hF := putF_len b
  have hd4 : l.drop (at_ + (putNum (b.length : Int)).length) = le4 (sumB (putNum b.length ++ b)) ++ (b ++ rest) := by
    rw [← List.drop_drop, h]
    unfold putF
    rw [List.append_assoc, List.append_assoc, List.drop_left' rfl]
  have hdb : l.drop (at_ + (putNum (b.length : Int)).length + 4) = b ++ rest := by
    rw [← List.drop_drop, hd4, List.drop_left' (le4_len _)]
  have htk : (l.drop at_).take (putNum (b.length : Int)).length = putNum b.length := by
    rw [h]
    unfold putF
    rw [List.append_assoc, List.append_assoc, List.take_left' rfl]
  unfold nextF
  rw [hr]
  simp only
  rw [if_neg (by omega), if_neg (by omega), hd4, hdb, htk, List.take_left' rfl, if_pos (List.take_left' (le4_len _)).symm, hF]
  congr 2
  omega
end Go.Proofs.Ytoeeiancbiaajaa
