/-
  num.Digits and firthref01.Digits write a number's decimal digits.
-/
import Derived.Test.YtejanmmhidlhjaaNumDig
import Derived.Test.YtejanmmhidlhjaaProg
import Derived.OpenShut
import Derived.IntWalk
namespace Go.Proofs.Ytejanmmhidlhjaa
open Go.RowKit
set_option linter.unusedVariables false

/-- The array of 20 bytes, filled from behind. -/
def ArrB (w : World) (g : Nat) (acc : List UInt8) : Prop := ∃ cs : Array Value, w.heap[g]? = some (.cells cs 47 (0, 0)) ∧ cs.size = 20 ∧ acc.length ≤ 20 ∧ cs.toList.drop (20 - acc.length) = bsV acc
theorem ArrB.new (w : World) (cs : Array Value) (h : cs.size = 20) : ArrB (w.alloc (.cells cs 47)) w.heap.size [] := ⟨cs, heap_alloc_new w _, h, by simp, by simp [bsV]; omega⟩
theorem ArrB.cell {w : World} {g : Nat} {acc : List UInt8} (h : ArrB w g acc) {j : Nat} (hj : j < 20) : ∃ v, w.cell? ⟨g, j, none⟩ = some v := by
  obtain ⟨cs, hg, hs, _⟩ := h
  exact ⟨cs[j], by rw [cell_of_row w g j cs _ (0, 0) hg]; simp [hs, hj]⟩
theorem ArrB.free {w : World} {g : Nat} {acc : List UInt8} (h : ArrB w g acc) (j : Nat) : w.frozen? ⟨g, j, none⟩ = false := by
  obtain ⟨cs, hg, _, _⟩ := h
  exact frozen_of_row w g j cs _ hg
theorem ArrB.push {w : World} {g : Nat} {acc : List UInt8} (h : ArrB w g acc) (hl : acc.length < 20) (c : UInt8) {k : Nat} (hk : k = 20 - acc.length - 1) {v : Value} (hv : v = bV c) : ArrB (w.setCell ⟨g, k, none⟩ v) g (c :: acc) := by
  subst hk hv
  obtain ⟨cs, hg, hs, _, hd⟩ := h
  refine ⟨cs.setIfInBounds (20 - acc.length - 1) (bV c), heap_setCell_same w g _ cs _ _ hg, by simp [hs], by simp; omega, ?_⟩
  have hlen : cs.toList.length = 20 := by simpa using hs
  have e1 : 20 - (c :: acc).length = 20 - acc.length - 1 := by simp; omega
  rw [Array.toList_setIfInBounds, e1, List.drop_eq_getElem_cons (by simp [hlen]; omega), List.getElem_set_self, List.drop_set_of_lt (by omega),
    show 20 - acc.length - 1 + 1 = 20 - acc.length by omega, hd]
  rfl
theorem ArrB.read {w : World} {g : Nat} {acc : List UInt8} (h : ArrB w g acc) {k n : Nat} (hk : k = 20 - acc.length) (hn : n = acc.length) : SlB w (some ⟨g, k, none⟩) n acc := by
  subst hk hn
  obtain ⟨cs, hg, hs, _, hd⟩ := h
  refine ⟨by rw [bsV_length]; simp, fun _ => ⟨g, 20 - acc.length, rfl, fun j u hu => ?_⟩⟩
  rw [cell_of_row w g _ cs _ (0, 0) hg, ← Array.getElem?_toList]
  rw [← hd, List.getElem?_drop] at hu
  exact hu


theorem u64_neg (m : Nat) (h : m ≤ 9223372036854775808) : IntKind.u64.wrap (-IntKind.u64.wrap (-(m : Int))) = (m : Int) := by
  simp [IntKind.wrap, IntKind.bits, IntKind.signed]
  omega
theorem ArrB.below {w w' : World} {g : Nat} {acc : List UInt8} (h : ArrB w g acc) (b : Below w.heap.size w w') : ArrB w' g acc := by
  obtain ⟨cs, hg, r⟩ := h
  exact ⟨cs, (b.block g (Array.getElem?_eq_some_iff.1 hg).1).trans hg, r⟩
theorem dig_byte {u : Nat} : bV (digC (u % 10)) = .int .u8 (((48 + u % 10 : Nat)) : Int) := by
  unfold bV
  rw [digC_toNat (by omega)]


theorem retl {a b : List UInt8} (h : b = a) : Ending.returned (Value.string ⟨a.toArray⟩) = Ending.returned (Value.string ⟨b.toArray⟩) := by rw [h]
theorem digits_ofNat (m : Nat) : digits (m : Int) = decs m := by unfold digits; rw [if_neg (by omega), Int.natAbs_natCast]; rfl
theorem digits_ofNeg (m : Nat) (h : 0 < m) : digits (-(m : Int)) = 45 :: decs m := by unfold digits; rw [if_pos (by omega), Int.natAbs_neg, Int.natAbs_natCast]; rfl

set_option maxHeartbeats 1000000 in
set_option maxRecDepth 100000 in
theorem digits_pos (m : Nat) (w : World) (h1 : m ≤ 9223372036854775807) :
    Calls Try.prog 21 #[.int .i64 (m : Int)] w fun e w' => e = .returned (.string ⟨(digits (m : Int)).toArray⟩) ∧ Below w.heap.size w w' := by
  have hm : m ≤ 9223372036854775808 := by omega
  have hs : decide ((m : Int) < 0) = false := decide_eq_false (by omega)
  go_enter Try.func21, Try.ntmps21
  go_wp2
  go_loopw [4, 5] (fun a v wr => ∃ (at_ u : Nat) (acc : List UInt8), a = .int .i64 (at_ : Int) ∧ v = .int .u64 (u : Int) ∧ at_ + acc.length = 20 ∧ acc.length ≤ 19 ∧ u ≤ 9223372036854775808 ∧ Hid (DigAt m u acc) ∧ Hid (ArrB wr w.heap.size acc) ∧ Below w.heap.size w wr) (fun a _ _ => (intOf a).toNat)
  case atStart => exact ⟨20, m, [], rfl, rfl, rfl, by simp, hm, DigAt.start m, ArrB.new w _ rfl, (Below.refl _ _).alloc (Nat.le_refl _) _⟩
  case round =>
    obtain ⟨at_, u, acc, rfl, rfl, hat, hacc, hu, HD, HA, hbel⟩ := hrel
    have hsz := hbel.size
    by_cases hgo : acc = [] ∨ 0 < u
    · have hs := HD.out.short hm hgo
      have HN := Lib.hid (HD.out.step hgo)
      by_cases hnil : at_ = 20
      · subst hnil
        clear hgo
        obtain ⟨old, hcell⟩ := HA.out.cell (j := 19) (by omega)
        have hfr := HA.out.free (19)
        have R1 := Lib.hid (HA.out.push (by omega) (digC (u % 10)) (k := 19) (by omega) dig_byte.symm)
        have R2 := Lib.hid (hbel.setCell (p := ⟨w.heap.size, 19, none⟩) (Nat.le_refl _) (.int .u8 (((48 + u % 10 : Nat)) : Int)))
        clear hbel
        go_wp2
        go_roundw
        case rel => exact ⟨19, u / 10, digC (u % 10) :: acc, by first | rfl | go_num, by first | rfl | go_num, by rw [List.length_cons]; omega, by rw [List.length_cons]; omega, by omega, HN, R1, R2.out⟩
        case measure => first | (simp [intOf]; done) | (simp [intOf]; omega)
      · have v1 : ((at_ : Int) == 20) = false := by simp; omega
        have hup : 0 < u := by
          rcases hgo with h | h
          · subst h; simp at hat; omega
          · exact h
        have v2 : decide (0 < u) = true := decide_eq_true hup
        have i1 : (1 : Int) ≤ (at_ : Int) := by omega
        have i2 : ((at_ : Int) - 1).toNat = at_ - 1 := by omega
        have i3 : (at_ : Int) ≤ 20 := by omega
        have i4 : (at_ : Int) - 1 < 20 := by omega
        clear hgo
        obtain ⟨old, hcell⟩ := HA.out.cell (j := at_ - 1) (by omega)
        have hfr := HA.out.free (at_ - 1)
        have R1 := Lib.hid (HA.out.push (by omega) (digC (u % 10)) (k := at_ - 1) (by omega) dig_byte.symm)
        have R2 := Lib.hid (hbel.setCell (p := ⟨w.heap.size, at_ - 1, none⟩) (Nat.le_refl _) (.int .u8 (((48 + u % 10 : Nat)) : Int)))
        clear hbel
        go_wp2
        go_roundw
        case rel => exact ⟨at_ - 1, u / 10, digC (u % 10) :: acc, by first | rfl | go_num, by first | rfl | go_num, by rw [List.length_cons]; omega, by rw [List.length_cons]; omega, by omega, HN, R1, R2.out⟩
        case measure => first | (simp [intOf]; done) | (simp [intOf]; omega)
    · have hne : acc ≠ [] := fun h => hgo (.inl h)
      have hu0 : u = 0 := by
        rcases Nat.eq_zero_or_pos u with h | h
        · exact h
        · exact absurd (.inr h) hgo
      have HE := Lib.hid (HD.out.stop hu0 hne)
      have hln : acc.length ≠ 0 := fun h => hne (List.eq_nil_of_length_eq_zero h)
      subst hu0
      have v1 : ((at_ : Int) == 20) = false := by simp; omega
      clear hgo hne HD
      have HD2 := Lib.hid (digits_ofNat m)
      have hsl := HA.out.read (k := at_) (n := 20 - at_) (by omega) (by omega)
      have hcv := run_convert_SlB (P := Try.prog) hsl 23 5 9 Try.underlying23 Try.underlying5 Try.underlying9
      have i0 : (0 : Int) ≤ (at_ : Int) := by omega
      have i1 : (at_ : Int) ≤ 20 := by omega
      have i2 : ¬ at_ = 20 := by omega
      clear hsl
      go_wp2
      go_ret
      exact ⟨retl (by rw [HD2.out, ← HE.out]), hbel⟩

set_option maxHeartbeats 1000000 in
set_option maxRecDepth 100000 in
theorem digits_neg (m : Nat) (w : World) (hp : 0 < m) (hm : m ≤ 9223372036854775808) :
    Calls Try.prog 21 #[.int .i64 (-(m : Int))] w fun e w' => e = .returned (.string ⟨(digits (-(m : Int))).toArray⟩) ∧ Below w.heap.size w w' := by
  have hs : decide (-(m : Int) < 0) = true := decide_eq_true (by omega)
  have hs2 : -(m : Int) < 0 := by omega
  have hw := u64_neg m hm
  go_enter Try.func21, Try.ntmps21
  go_wp2
  go_loopw [4, 5] (fun a v wr => ∃ (at_ u : Nat) (acc : List UInt8), a = .int .i64 (at_ : Int) ∧ v = .int .u64 (u : Int) ∧ at_ + acc.length = 20 ∧ acc.length ≤ 19 ∧ u ≤ 9223372036854775808 ∧ Hid (DigAt m u acc) ∧ Hid (ArrB wr w.heap.size acc) ∧ Below w.heap.size w wr) (fun a _ _ => (intOf a).toNat)
  case atStart => exact ⟨20, m, [], rfl, rfl, rfl, by simp, hm, DigAt.start m, ArrB.new w _ rfl, (Below.refl _ _).alloc (Nat.le_refl _) _⟩
  case round =>
    obtain ⟨at_, u, acc, rfl, rfl, hat, hacc, hu, HD, HA, hbel⟩ := hrel
    have hsz := hbel.size
    by_cases hgo : acc = [] ∨ 0 < u
    · have hs := HD.out.short hm hgo
      have HN := Lib.hid (HD.out.step hgo)
      by_cases hnil : at_ = 20
      · subst hnil
        clear hgo
        obtain ⟨old, hcell⟩ := HA.out.cell (j := 19) (by omega)
        have hfr := HA.out.free (19)
        have R1 := Lib.hid (HA.out.push (by omega) (digC (u % 10)) (k := 19) (by omega) dig_byte.symm)
        have R2 := Lib.hid (hbel.setCell (p := ⟨w.heap.size, 19, none⟩) (Nat.le_refl _) (.int .u8 (((48 + u % 10 : Nat)) : Int)))
        clear hbel
        go_wp2
        go_roundw
        case rel => exact ⟨19, u / 10, digC (u % 10) :: acc, by first | rfl | go_num, by first | rfl | go_num, by rw [List.length_cons]; omega, by rw [List.length_cons]; omega, by omega, HN, R1, R2.out⟩
        case measure => first | (simp [intOf]; done) | (simp [intOf]; omega)
      · have v1 : ((at_ : Int) == 20) = false := by simp; omega
        have hup : 0 < u := by
          rcases hgo with h | h
          · subst h; simp at hat; omega
          · exact h
        have v2 : decide (0 < u) = true := decide_eq_true hup
        have i1 : (1 : Int) ≤ (at_ : Int) := by omega
        have i2 : ((at_ : Int) - 1).toNat = at_ - 1 := by omega
        have i3 : (at_ : Int) ≤ 20 := by omega
        have i4 : (at_ : Int) - 1 < 20 := by omega
        clear hgo
        obtain ⟨old, hcell⟩ := HA.out.cell (j := at_ - 1) (by omega)
        have hfr := HA.out.free (at_ - 1)
        have R1 := Lib.hid (HA.out.push (by omega) (digC (u % 10)) (k := at_ - 1) (by omega) dig_byte.symm)
        have R2 := Lib.hid (hbel.setCell (p := ⟨w.heap.size, at_ - 1, none⟩) (Nat.le_refl _) (.int .u8 (((48 + u % 10 : Nat)) : Int)))
        clear hbel
        go_wp2
        go_roundw
        case rel => exact ⟨at_ - 1, u / 10, digC (u % 10) :: acc, by first | rfl | go_num, by first | rfl | go_num, by rw [List.length_cons]; omega, by rw [List.length_cons]; omega, by omega, HN, R1, R2.out⟩
        case measure => first | (simp [intOf]; done) | (simp [intOf]; omega)
    · have hne : acc ≠ [] := fun h => hgo (.inl h)
      have hu0 : u = 0 := by
        rcases Nat.eq_zero_or_pos u with h | h
        · exact h
        · exact absurd (.inr h) hgo
      have HE := Lib.hid (HD.out.stop hu0 hne)
      have hln : acc.length ≠ 0 := fun h => hne (List.eq_nil_of_length_eq_zero h)
      subst hu0
      have v1 : ((at_ : Int) == 20) = false := by simp; omega
      clear hgo hne HD
      have HD2 := Lib.hid (digits_ofNeg m hp)
      obtain ⟨old, hcell⟩ := HA.out.cell (j := at_ - 1) (by omega)
      have hfr := HA.out.free (at_ - 1)
      have R1 := HA.out.push (by omega) 45 (k := at_ - 1) (by omega) (v := .int .u8 45) rfl
      have R2 := hbel.setCell (p := ⟨w.heap.size, at_ - 1, none⟩) (Nat.le_refl _) (.int .u8 45)
      have hsl := R1.read (k := at_ - 1) (n := 20 - (at_ - 1)) (by rw [List.length_cons]; omega) (by rw [List.length_cons]; omega)
      have hcv := run_convert_SlB (P := Try.prog) hsl 23 5 9 Try.underlying23 Try.underlying5 Try.underlying9
      have i1 : (1 : Int) ≤ (at_ : Int) := by omega
      have i2 : ((at_ : Int) - 1).toNat = at_ - 1 := by omega
      have i3 : (at_ : Int) ≤ 20 := by omega
      have i4 : (at_ : Int) - 1 < 20 := by omega
      have i5 : ¬ at_ - 1 = 20 := by omega
      have i6 : (at_ : Int) - 1 ≤ 20 := by omega
      have i7 : (at_ : Int) ≤ 21 := by omega
      have i8 : (0 : Int) ≤ (at_ : Int) - 1 := by omega
      have i9 : at_ - 1 ≤ 20 := by omega
      clear hsl R1 hw
      go_wp2
      go_ret
      exact ⟨retl (by rw [HD2.out, ← HE.out]), R2⟩
end Go.Proofs.Ytejanmmhidlhjaa
