/-
  The walks of firthlaw01.NumDigits and firthlaw01.NumSaid.
-/
import Derived.Test.YtejanmmhidlhjaaNumRefDig
import Derived.Test.YtejanmmhidlhjaaNumReadD
namespace Go.Proofs.Ytejanmmhidlhjaa
open Go.RowKit
set_option linter.unusedVariables false

theorem numDigits_any (n : Int) (w : World) (h1 : -9223372036854775808 ≤ n) (h2 : n ≤ 9223372036854775807) :
    Calls Try.prog 21 #[.int .i64 n] w fun e w' => e = .returned (.string ⟨(digits n).toArray⟩) ∧ Below w.heap.size w w' := by
  by_cases h : 0 ≤ n
  · obtain ⟨m, rfl⟩ := Int.eq_ofNat_of_zero_le h
    exact digits_pos m w (by omega)
  · obtain ⟨m, hm⟩ := Int.eq_ofNat_of_zero_le (show 0 ≤ -n by omega)
    obtain rfl : n = -(m : Int) := by omega
    exact digits_neg m w (by omega) (by omega)
theorem refDigits_any (n : Int) (w : World) (h1 : -9223372036854775808 ≤ n) (h2 : n ≤ 9223372036854775807) :
    Calls Try.prog 22 #[.int .i64 n] w fun e w' => e = .returned (.string ⟨(digits n).toArray⟩) ∧ Below w.heap.size w w' := by
  by_cases h : 0 ≤ n
  · obtain ⟨m, rfl⟩ := Int.eq_ofNat_of_zero_le h
    exact refDigits_pos m w (by omega)
  · obtain ⟨m, hm⟩ := Int.eq_ofNat_of_zero_le (show 0 ≤ -n by omega)
    obtain rfl : n = -(m : Int) := by omega
    exact refDigits_neg m w (by omega) (by omega)

set_option maxHeartbeats 1000000 in
set_option maxRecDepth 100000 in
theorem numDigits_walk (n : Int) (s : ByteArray) (w : World) (wn : (Lit.int .i64 n).wf = true) (zs : s.size ≤ 140737488351232) :
    Calls Try.prog 8 #[.int .i64 n, .string s] w fun e w' => e = .returned (.bool true) ∧ Below w.heap.size w w' := by
  have hb := bounds_i64 wn
  obtain ⟨D, hD⟩ : ∃ D : ByteArray, D = ⟨(digits n).toArray⟩ := ⟨_, rfl⟩
  obtain ⟨v, hv⟩ : ∃ v : Int, v = readN s.data.toList := ⟨_, rfl⟩
  obtain ⟨x, hx⟩ : ∃ x : Int, x = readE s.data.toList := ⟨_, rfl⟩
  have C1 := fun W => numDigits_any n W hb.1 hb.2
  have C2 := fun W => refDigits_any n W hb.1 hb.2
  have C3 := fun W => read_any s W zs
  have C4 := fun W => refRead_any s W zs
  simp only [← hD] at C1 C2
  simp only [← hv, ← hx] at C3 C4
  have D1 := Lib.hid C1
  have D2 := Lib.hid C2
  have D3 := Lib.hid C3
  have D4 := Lib.hid C4
  clear C1 C2 C3 C4 hD hv hx wn
  go_enter Try.func8, Try.ntmps8
  go_wp2_with fail
  refine (D3.out w).mono ?_
  rintro e w1 ⟨rfl, b1⟩
  have z1 := b1.size
  go_wp2_with fail
  refine (D4.out w1).mono ?_
  rintro e w2 ⟨rfl, rfl⟩
  go_wp2_with fail
  refine (D1.out w1).mono ?_
  rintro e w2 ⟨rfl, b2⟩
  have B2 := b1.trans (b2.mono z1)
  have z2 := B2.size
  clear b1 b2
  go_wp2_with fail
  refine (D2.out w2).mono ?_
  rintro e w3 ⟨rfl, b3⟩
  go_wp2
  go_ret
  exact ⟨by simp, B2.trans (b3.mono z2)⟩

theorem digits_len (n : Int) (h1 : -9223372036854775808 ≤ n) (h2 : n ≤ 9223372036854775807) : (digits n).length ≤ 21 := by
  have h : ∀ f m : Nat, (decsF f m).length ≤ 20 ∨ 10 ^ 20 ≤ m := by
    have key : ∀ (m : Nat), ∀ k, m < 10 ^ k → (decs m).length ≤ max k 1 := by
      intro m
      induction m using Nat.strongRecOn with
      | ind m ih =>
        intro k hk
        by_cases hm : m < 10
        · rw [decs_small hm]; simp; omega
        · rw [decs_big (by omega), List.length_append, List.length_singleton]
          match k, hk with
          | 0, hk => simp at hk; omega
          | 1, hk => simp at hk; omega
          | k + 2, hk =>
            have := ih (m / 10) (by omega) (k + 1) (by rw [Nat.pow_succ] at hk; omega)
            omega
    intro f m
    rcases Nat.lt_or_ge m (10 ^ 20) with h3 | h3
    · rcases Nat.lt_or_ge m f with h4 | h4
      · left
        rw [decsF_fuel f (m + 1) m h4 (by omega)]
        have := key m 20 h3
        unfold decs at this
        omega
      · left
        have hshort : ∀ f m, (decsF f m).length ≤ (decs m).length := by
          intro f
          induction f with
          | zero => intro m; simp [decsF]
          | succ f ih =>
            intro m
            rw [decsF]
            by_cases hm : m < 10
            · rw [if_pos hm, decs_small hm]; simp
            · rw [if_neg hm, decs_big (by omega)]
              have := ih (m / 10)
              simp
              omega
        have := key m 20 h3
        have := hshort f m
        omega
    · exact .inr h3
  unfold digits
  rw [List.length_append]
  have h5 := h (n.natAbs + 1) n.natAbs
  have h6 : (decs n.natAbs).length ≤ 20 := by
    rcases h5 with h5 | h5
    · exact h5
    · exfalso
      have : (10 : Nat) ^ 20 = 100000000000000000000 := rfl
      omega
  split
  · simp; omega
  · simp; omega

set_option maxHeartbeats 1000000 in
set_option maxRecDepth 100000 in
theorem numSaid_walk (n : Int) (s : ByteArray) (w : World) (wn : (Lit.int .i64 n).wf = true) (zs : s.size ≤ 140737488351232) :
    Calls Try.prog 9 #[.int .i64 n, .string s] w fun e w' => e = .returned (.bool true) ∧ Below w.heap.size w w' := by
  have hb := bounds_i64 wn
  obtain ⟨b1', b2'⟩ := hb
  have H1 : ∃ m e : Int, readN (digits n) = m ∧ readE (digits n) = e ∧ (0 ≤ n → m = n ∧ e = 0) ∧ (n < 0 → e = 2) := by
    refine ⟨_, _, rfl, rfl, fun h => ?_, fun h => ?_⟩
    · obtain ⟨h1, h2⟩ := digits_ok h (by omega)
      exact ⟨by rw [readN_yes h1]; exact h2, readE_yes h1⟩
    · exact readE_no (digits_no h)
  obtain ⟨m, e0, hm, he, hpos, hneg⟩ := H1
  have C1 := fun W => numDigits_any n W b1' b2'
  have hlen := digits_len n b1' b2'
  have C2 := fun W => read_any ⟨(digits n).toArray⟩ W (by show (digits n).toArray.size ≤ _; simp; omega)
  simp only [hm, he] at C2
  obtain ⟨D, hD⟩ : ∃ D : ByteArray, D = ⟨(digits n).toArray⟩ := ⟨_, rfl⟩
  simp only [← hD] at C1 C2
  have D1 := Lib.hid C1
  have D2 := Lib.hid C2
  clear C1 C2 hD hm he hlen wn
  by_cases ho : okR s.data.toList
  · have C3 := fun W => read_any s W zs
    have hN := readN_yes ho
    have hE := readE_yes ho
    have hv : valL s.data.toList < 9223372036854775808 := ho.2.2.2
    have hv2 : (valL s.data.toList : Int) ≤ 9223372036854775807 := by omega
    have hv3 : (-9223372036854775808 : Int) ≤ (valL s.data.toList : Int) := by omega
    have C4 := fun W => numDigits_any (valL s.data.toList : Int) W hv3 hv2
    have hs : (⟨(digits (valL s.data.toList : Int)).toArray⟩ : ByteArray) = s := by
      apply ByteArray.ext
      rw [digits_read ho]
    simp only [hN, hE] at C3
    simp only [hs] at C4
    obtain ⟨v, hvv⟩ : ∃ v : Int, v = (valL s.data.toList : Int) := ⟨_, rfl⟩
    simp only [← hvv] at C3 C4
    have D3 := Lib.hid C3
    have D4 := Lib.hid C4
    clear C3 C4 hN hE hv hv2 hv3 hs hvv ho
    by_cases hn : 0 ≤ n
    · obtain ⟨rfl, rfl⟩ := hpos hn
      clear hpos hneg
      go_enter Try.func9, Try.ntmps9
      go_wp2_with fail
      refine (D1.out w).mono ?_
      rintro e w1 ⟨rfl, b1⟩
      have z1 := b1.size
      go_wp2_with fail
      refine (D2.out w1).mono ?_
      rintro e w2 ⟨rfl, b2⟩
      have B2 := b1.trans (b2.mono z1)
      have z2 := B2.size
      clear b1 b2
      go_wp2_with fail
      refine (D3.out w2).mono ?_
      rintro e w3 ⟨rfl, b3⟩
      have B3 := B2.trans (b3.mono z2)
      have z3 := B3.size
      clear B2 b3
      go_wp2_with fail
      refine (D4.out w3).mono ?_
      rintro e w4 ⟨rfl, b4⟩
      have B4 := B3.trans (b4.mono z3)
      clear B3 b4
      go_wp2
      go_ret
      exact ⟨by simp, B4⟩
    · obtain rfl := hneg (by omega)
      have hn' : n < 0 := by omega
      clear hpos hneg
      go_enter Try.func9, Try.ntmps9
      go_wp2_with fail
      refine (D1.out w).mono ?_
      rintro e w1 ⟨rfl, b1⟩
      have z1 := b1.size
      go_wp2_with fail
      refine (D2.out w1).mono ?_
      rintro e w2 ⟨rfl, b2⟩
      have B2 := b1.trans (b2.mono z1)
      have z2 := B2.size
      clear b1 b2
      go_wp2_with fail
      refine (D3.out w2).mono ?_
      rintro e w3 ⟨rfl, b3⟩
      have B3 := B2.trans (b3.mono z2)
      have z3 := B3.size
      clear B2 b3
      go_wp2_with fail
      refine (D4.out w3).mono ?_
      rintro e w4 ⟨rfl, b4⟩
      have B4 := B3.trans (b4.mono z3)
      clear B3 b4
      go_wp2
      go_ret
      exact ⟨by simp, B4⟩
  · have C3 := fun W => read_any s W zs
    have hE := readE_no ho
    simp only [hE] at C3
    have D3 := Lib.hid C3
    clear C3 hE ho
    by_cases hn : 0 ≤ n
    · obtain ⟨rfl, rfl⟩ := hpos hn
      clear hpos hneg
      go_enter Try.func9, Try.ntmps9
      go_wp2_with fail
      refine (D1.out w).mono ?_
      rintro e w1 ⟨rfl, b1⟩
      have z1 := b1.size
      go_wp2_with fail
      refine (D2.out w1).mono ?_
      rintro e w2 ⟨rfl, b2⟩
      have B2 := b1.trans (b2.mono z1)
      have z2 := B2.size
      clear b1 b2
      go_wp2_with fail
      refine (D3.out w2).mono ?_
      rintro e w3 ⟨rfl, b3⟩
      have B3 := B2.trans (b3.mono z2)
      have z3 := B3.size
      clear B2 b3
      go_wp2
      go_ret
      exact ⟨by simp, B3⟩
    · obtain rfl := hneg (by omega)
      have hn' : n < 0 := by omega
      clear hpos hneg
      go_enter Try.func9, Try.ntmps9
      go_wp2_with fail
      refine (D1.out w).mono ?_
      rintro e w1 ⟨rfl, b1⟩
      have z1 := b1.size
      go_wp2_with fail
      refine (D2.out w1).mono ?_
      rintro e w2 ⟨rfl, b2⟩
      have B2 := b1.trans (b2.mono z1)
      have z2 := B2.size
      clear b1 b2
      go_wp2_with fail
      refine (D3.out w2).mono ?_
      rintro e w3 ⟨rfl, b3⟩
      have B3 := B2.trans (b3.mono z2)
      have z3 := B3.size
      clear B2 b3
      go_wp2
      go_ret
      exact ⟨by simp, B3⟩
end Go.Proofs.Ytejanmmhidlhjaa
