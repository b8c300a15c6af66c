/-
  firthref01.Digits writes a number's decimal digits.
-/
import Derived.Test.YtejanmmhidlhjaaNumDigW
namespace Go.Proofs.Ytejanmmhidlhjaa
open Go.RowKit
set_option linter.unusedVariables false

theorem sl_byte (w : World) (u : Nat) : SlB (w.alloc (.cells #[.int .u8 (48 + (u : Int) % 10)] 5)) (some ⟨w.heap.size, 0, none⟩) 1 [digC (u % 10)] := by
  refine ⟨rfl, fun _ => ⟨w.heap.size, 0, rfl, fun j v hj => ?_⟩⟩
  rw [Nat.zero_add, cell_of_row _ w.heap.size j _ _ (0, 0) (heap_alloc_new w _)]
  have e : bsV [digC (u % 10)] = [Value.int .u8 (48 + (u : Int) % 10)] := by
    unfold bsV; rw [List.map_singleton, dig_byte]
    congr 2
  rw [e] at hj
  simpa using hj
theorem str_cons (c : UInt8) (acc : List UInt8) : Value.string (⟨#[c]⟩ ++ ⟨acc.toArray⟩) = Value.string ⟨(c :: acc).toArray⟩ := by
  congr 1
theorem str_one (c : UInt8) : Value.string (⟨#[c]⟩ ++ ⟨#[]⟩) = Value.string ⟨[c].toArray⟩ := str_cons c []
def acc_len : Value → Nat | .string s => s.size | _ => 0

set_option maxHeartbeats 1000000 in
set_option maxRecDepth 100000 in
theorem refDigits_pos (m : Nat) (w : World) (h1 : m ≤ 9223372036854775807) :
    Calls Try.prog 22 #[.int .i64 (m : Int)] w fun e w' => e = .returned (.string ⟨(digits (m : Int)).toArray⟩) ∧ Below w.heap.size w w' := by
  have hm : m ≤ 9223372036854775808 := by omega
  have hs : decide ((m : Int) < 0) = false := decide_eq_false (by omega)
  go_enter Try.func22, Try.ntmps22
  go_wp2
  go_loopw [3, 4, 5] (fun s v d wr => ∃ (u : Nat) (acc : List UInt8), s = .string ⟨acc.toArray⟩ ∧ v = .int .i64 (u : Int) ∧ acc.length ≤ 19 ∧ u ≤ 9223372036854775807 ∧ Hid (DigAt m u acc) ∧ Below w.heap.size w wr) (fun s v _ _ => 20 - acc_len s)
  case atStart => exact ⟨m, [], rfl, rfl, by simp, by omega, DigAt.start m, Below.refl _ _⟩
  case round =>
    obtain ⟨u, acc, rfl, rfl, hacc, hu, HD, hbel⟩ := hrel
    have hsz := hbel.size
    by_cases hgo : acc = [] ∨ 0 < u
    · have hs := HD.out.short hm hgo
      have HN := Lib.hid (HD.out.step hgo)
      have hsl : SlB (wr.alloc (.cells #[.int .u8 (48 + (u : Int) % 10)] 5)) (some ⟨wr.heap.size, 0, none⟩) 1 [digC (u % 10)] := sl_byte wr _
      have hcv := run_convert_SlB (P := Try.prog) hsl 23 5 9 Try.underlying23 Try.underlying5 Try.underlying9
      have R2 := Lib.hid (hbel.alloc hsz (.cells #[.int .u8 (48 + (u : Int) % 10)] 5))
      have w0 : (0 : Int) ≤ (u : Int) % 10 := by omega
      clear hsl hbel
      by_cases hnil : acc = []
      · subst hnil
        clear hgo
        go_wp2
        go_roundw
        case rel => exact ⟨u / 10, [digC (u % 10)], str_one _, by go_num, by simp, by omega, HN, R2.out⟩
        case measure => rw [str_one]; show 20 - 1 < 20 - 0; omega
      · have hup : 0 < u := by
          rcases hgo with h | h
          · exact absurd h hnil
          · exact h
        have v1 : acc.isEmpty = false := by simpa using hnil
        have v2 : ((u : Int) != 0) = true := by simp; omega
        clear hgo
        go_wp2
        go_roundw
        case rel => exact ⟨u / 10, digC (u % 10) :: acc, str_cons _ _, by go_num, by simp; omega, by omega, HN, R2.out⟩
        case measure => rw [str_cons]; show 20 - (acc.length + 1) < 20 - acc.length; omega
    · have hne : acc ≠ [] := fun h => hgo (.inl h)
      have hu0 : u = 0 := by
        rcases Nat.eq_zero_or_pos u with h | h
        · exact h
        · exact absurd (.inr h) hgo
      have HE := Lib.hid (HD.out.stop hu0 hne)
      have HD2 := Lib.hid (digits_ofNat m)
      have v1 : acc.isEmpty = false := by simpa using hne
      subst hu0
      clear hgo HD hne
      go_wp2
      go_ret
      exact ⟨retl (by rw [HD2.out, ← HE.out]), hbel⟩

theorem str_minus (acc : List UInt8) : (⟨#[45]⟩ : ByteArray) ++ ⟨acc.toArray⟩ = ⟨(45 :: acc).toArray⟩ := by
  apply ByteArray.ext
  simp
theorem rets {a b : ByteArray} (h : b = a) : Ending.returned (Value.string a) = Ending.returned (Value.string b) := by rw [h]
theorem neg_mod (u : Nat) : (-(u : Int)).tmod 10 = -((u : Int) % 10) := by rw [Int.neg_tmod, Int.tmod_eq_emod_of_nonneg (by omega)]
theorem neg_div (u : Nat) : (-(u : Int)).tdiv 10 = -((u : Int) / 10) := by rw [Int.neg_tdiv, Int.tdiv_eq_ediv_of_nonneg (by omega)]


set_option maxHeartbeats 1000000 in
set_option maxRecDepth 100000 in
theorem refDigits_neg (m : Nat) (w : World) (hp : 0 < m) (hm : m ≤ 9223372036854775808) :
    Calls Try.prog 22 #[.int .i64 (-(m : Int))] w fun e w' => e = .returned (.string ⟨(digits (-(m : Int))).toArray⟩) ∧ Below w.heap.size w w' := by
  have hs : decide (-(m : Int) < 0) = true := decide_eq_true (by omega)
  have hs2 : -(m : Int) < 0 := by omega
  go_enter Try.func22, Try.ntmps22
  go_wp2
  go_loopw [3, 4, 5] (fun s v d wr => ∃ (u : Nat) (acc : List UInt8), s = .string ⟨acc.toArray⟩ ∧ v = .int .i64 (-(u : Int)) ∧ acc.length ≤ 19 ∧ u ≤ 9223372036854775808 ∧ Hid (DigAt m u acc) ∧ Below w.heap.size w wr) (fun s v _ _ => 20 - acc_len s)
  case atStart => exact ⟨m, [], rfl, rfl, by simp, by omega, DigAt.start m, Below.refl _ _⟩
  case round =>
    obtain ⟨u, acc, rfl, rfl, hacc, hu, HD, hbel⟩ := hrel
    have hsz := hbel.size
    have nd := neg_div u
    by_cases hgo : acc = [] ∨ 0 < u
    · have hs := HD.out.short hm hgo
      have HN := Lib.hid (HD.out.step hgo)
      have w2 : (u : Int) / 10 ≤ 922337203685477580 := by omega
      have w3 : (0 : Int) ≤ (u : Int) / 10 := by omega
      by_cases hz : u % 10 = 0
      · have nm : (-(u : Int)).tmod 10 = 0 := by rw [neg_mod]; omega
        have hsl : SlB (wr.alloc (.cells #[.int .u8 48] 5)) (some ⟨wr.heap.size, 0, none⟩) 1 [digC (0 % 10)] := sl_byte wr 0
        have hcv := run_convert_SlB (P := Try.prog) hsl 23 5 9 Try.underlying23 Try.underlying5 Try.underlying9
        have R2 := Lib.hid (hbel.alloc hsz (.cells #[.int .u8 48] 5))
        have HZ : digC (0 % 10) = digC (u % 10) := by rw [hz]
        rw [HZ] at hcv
        clear hsl hbel HZ hz
        by_cases hnil : acc = []
        · subst hnil
          clear hgo
          go_wp2
          go_roundw
          case rel => exact ⟨u / 10, [digC (u % 10)], str_one _, by first | rfl | go_num, by simp, by omega, HN, R2.out⟩
          case measure => rw [str_one]; show 20 - 1 < 20 - 0; omega
        · have hup : 0 < u := by
            rcases hgo with h | h
            · exact absurd h hnil
            · exact h
          have v1 : acc.isEmpty = false := by simpa using hnil
          have v2 : (-(u : Int) != 0) = true := by simp; omega
          have v3 : ((u : Int) != 0) = true := by simp; omega
          clear hgo
          go_wp2
          go_roundw
          case rel => exact ⟨u / 10, digC (u % 10) :: acc, str_cons _ _, by first | rfl | go_num, by simp; omega, by omega, HN, R2.out⟩
          case measure => rw [str_cons]; show 20 - (acc.length + 1) < 20 - acc.length; omega
      · have nm := neg_mod u
        have hsl : SlB (wr.alloc (.cells #[.int .u8 (48 + (u : Int) % 10)] 5)) (some ⟨wr.heap.size, 0, none⟩) 1 [digC (u % 10)] := sl_byte wr _
        have hcv := run_convert_SlB (P := Try.prog) hsl 23 5 9 Try.underlying23 Try.underlying5 Try.underlying9
        have R2 := Lib.hid (hbel.alloc hsz (.cells #[.int .u8 (48 + (u : Int) % 10)] 5))
        have w0 : (0 : Int) ≤ (u : Int) % 10 := by omega
        have w1 : (u : Int) % 10 ≤ 9 := by omega
        have z1 : -((u : Int) % 10) < 0 := by omega
        clear hsl hbel
        by_cases hnil : acc = []
        · subst hnil
          clear hgo
          go_wp2
          go_roundw
          case rel => exact ⟨u / 10, [digC (u % 10)], str_one _, by first | rfl | go_num, by simp, by omega, HN, R2.out⟩
          case measure => rw [str_one]; show 20 - 1 < 20 - 0; omega
        · have hup : 0 < u := by
            rcases hgo with h | h
            · exact absurd h hnil
            · exact h
          have v1 : acc.isEmpty = false := by simpa using hnil
          have v2 : (-(u : Int) != 0) = true := by simp; omega
          have v3 : ((u : Int) != 0) = true := by simp; omega
          clear hgo
          go_wp2
          go_roundw
          case rel => exact ⟨u / 10, digC (u % 10) :: acc, str_cons _ _, by first | rfl | go_num, by simp; omega, by omega, HN, R2.out⟩
          case measure => rw [str_cons]; show 20 - (acc.length + 1) < 20 - acc.length; omega
    · have hne : acc ≠ [] := fun h => hgo (.inl h)
      have hu0 : u = 0 := by
        rcases Nat.eq_zero_or_pos u with h | h
        · exact h
        · exact absurd (.inr h) hgo
      have HE := Lib.hid (HD.out.stop hu0 hne)
      have HD2 := Lib.hid (digits_ofNeg m hp)
      have v1 : acc.isEmpty = false := by simpa using hne
      subst hu0
      clear hgo HD hne nd
      go_wp2
      go_ret
      exact ⟨rets (by rw [HD2.out, ← HE.out, str_minus]), hbel⟩
end Go.Proofs.Ytejanmmhidlhjaa
