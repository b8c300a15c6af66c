/-
  The plain laws of layer 1: a number is read back from its bytes, and bytes that are read are the number's own.
-/
import Derived.Test.YtlhcohpcjleekaaNumPlain
namespace Go.Proofs.Ytlhcohpcjleekaa

theorem byte_toNat (x : Nat) (h : x < 256) : (UInt8.ofNat x).toNat = x := by simp [UInt8.toNat_ofNat']; omega

theorem rdN_putN (f : Nat) : ∀ (u i acc : Nat) (rest : List UInt8), i + f ≤ 8 → u < 128 ^ (f + 1) → (0 < i → 0 < u) →
    rdN (putN f u ++ rest) i acc = .ok (acc + u * 128 ^ i, i + (putN f u).length) := by
  induction f with
  | zero =>
    intro u i acc rest hi hu hp
    simp only [Nat.zero_add, Nat.pow_one] at hu
    unfold putN
    rw [List.singleton_append]
    unfold rdN
    rw [byte_toNat u (by omega), if_neg (by omega), if_pos hu]
    simp
  | succ f ih =>
    intro u i acc rest hi hu hp
    unfold putN
    by_cases hs : u < 128
    · rw [if_pos hs, List.singleton_append]
      unfold rdN
      rw [byte_toNat u (by omega), if_neg (by omega), if_pos hs]
      simp
    · rw [if_neg hs, List.cons_append]
      unfold rdN
      rw [byte_toNat _ (by omega), if_neg (by omega), if_neg (by omega)]
      have h4 : 128 ^ (f + 1 + 1) = 128 ^ (f + 1) * 128 := Nat.pow_succ ..
      rw [ih (u / 128) (i + 1) _ rest (by omega) (by rw [Nat.div_lt_iff_lt_mul (by omega)]; omega) (fun _ => by omega)]
      have e1 : (u % 128 + 128) % 128 = u % 128 := by omega
      have e2 : (128 : Nat) ^ (i + 1) = 128 ^ i * 128 := Nat.pow_succ ..
      have e3 : u = u / 128 * 128 + u % 128 := by omega
      have e4 : u * 128 ^ i = (u / 128) * (128 ^ i * 128) + u % 128 * 128 ^ i := by
        conv => lhs; rw [e3]
        rw [Nat.add_mul, Nat.mul_assoc, Nat.mul_comm 128 (128 ^ i)]
      rw [e1, e2, e4]
      congr 2
      · omega
      · simp; omega

theorem rdNum_putNum (n : Nat) (h : n < 9223372036854775808) (rest : List UInt8) : rdNum (putN 8 n ++ rest) = .ok (n, (putN 8 n).length) := by
  have := rdN_putN 8 n 0 0 rest (by omega) (by simpa using h) (by omega)
  simpa [rdNum] using this

theorem rdN_ok (l : List UInt8) : ∀ (i acc n k : Nat), i ≤ 8 → rdN l i acc = .ok (n, k) →
    ∃ u j, n = acc + u * 128 ^ i ∧ k = i + j ∧ 1 ≤ j ∧ i + j ≤ 9 ∧ j ≤ l.length ∧ u < 128 ^ j ∧ (0 < i → 0 < u) ∧ ∀ f, j ≤ f + 1 → l.take j = putN f u := by
  induction l with
  | nil => intro i acc n k _ h; simp [rdN] at h
  | cons c r ih =>
    intro i acc n k hi h
    unfold rdN at h
    split at h
    · cases h
    · rename_i hbad
      split at h
      · rename_i hc
        simp only [Except.ok.injEq, Prod.mk.injEq] at h
        obtain ⟨rfl, rfl⟩ := h
        refine ⟨c.toNat, 1, rfl, rfl, by omega, by omega, by simp, by omega, by omega, fun f hf => ?_⟩
        have e : (c :: r).take 1 = [UInt8.ofNat c.toNat] := by simp
        rw [e]
        cases f with
        | zero => rfl
        | succ f => unfold putN; rw [if_pos hc]
      · rename_i hc
        have hi8 : i < 8 := by omega
        have hlt := UInt8.toNat_lt c
        obtain ⟨u, j, h1, h2, h3, h4, h5, h6, h7, h8⟩ := ih (i + 1) _ n k (by omega) h
        have hu := h7 (by omega)
        have e2 : (128 : Nat) ^ (i + 1) = 128 ^ i * 128 := Nat.pow_succ ..
        have e5 : (128 : Nat) ^ (j + 1) = 128 ^ j * 128 := Nat.pow_succ ..
        refine ⟨u * 128 + c.toNat % 128, j + 1, ?_, by omega, by omega, by omega, by simp; omega, by omega, by omega, fun f hf => ?_⟩
        · rw [h1, e2, Nat.add_mul, Nat.mul_assoc, Nat.mul_comm 128 (128 ^ i)]; omega
        · match f, hf with
          | 0, hf => omega
          | f + 1, hf =>
            unfold putN
            rw [if_neg (by omega), List.take_succ_cons, h8 f (by omega)]
            have e3 : (u * 128 + c.toNat % 128) / 128 = u := by omega
            have e4 : (u * 128 + c.toNat % 128) % 128 + 128 = c.toNat := by omega
            rw [e3, e4]
            simp

/-- Bytes that are read as a number are the number's own. -/
theorem rdNum_ok {l : List UInt8} {n k : Nat} (h : rdNum l = .ok (n, k)) : 1 ≤ k ∧ k ≤ 9 ∧ k ≤ l.length ∧ n < 9223372036854775808 ∧ l.take k = putN 8 n := by
  obtain ⟨u, j, h1, h2, h3, h4, h5, h6, _, h8⟩ := rdN_ok l 0 0 n k (by omega) h
  have e : n = u := by omega
  have e2 : k = j := by omega
  subst e e2
  have h9 : (128 : Nat) ^ k ≤ 128 ^ 9 := Nat.pow_le_pow_right (by omega) (by omega)
  have h10 : (128 : Nat) ^ 9 = 9223372036854775808 := by decide
  exact ⟨h3, by omega, h5, by omega, h8 8 (by omega)⟩

theorem rdN_err (l : List UInt8) : ∀ (i acc : Nat) (x : Int), rdN l i acc = .error x → x = 2 ∨ x = 4 := by
  induction l with
  | nil => intro i acc x h; simp only [rdN, Except.error.injEq] at h; omega
  | cons c r ih =>
    intro i acc x h
    unfold rdN at h
    split at h
    · simp only [Except.error.injEq] at h; omega
    · split at h
      · cases h
      · exact ih _ _ _ h

end Go.Proofs.Ytlhcohpcjleekaa
