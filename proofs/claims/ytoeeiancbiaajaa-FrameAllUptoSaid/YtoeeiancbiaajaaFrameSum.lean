/-
  frame.Sum and firthref02.Sum: the check sum.
-/
import Derived.Test.YtoeeiancbiaajaaFramePlain
import Derived.Test.YtoeeiancbiaajaaBytesMem
import Derived.Test.YtoeeiancbiaajaaProg
import Derived.IntWalk
import Derived.OpenShut
namespace Go.Proofs.Ytoeeiancbiaajaa
open Go.RowKit
set_option linter.unusedVariables false

theorem u32i {a b : Int} (h : a = b) : Value.int .u32 a = Value.int .u32 b := by rw [h]
theorem b_xorH {r : Nat} (h : r < 4294967296) : bits .xor .u32 ((r : Int) / 2) 3988292384 = (((r / 2) ^^^ 3988292384 : Nat) : Int) := by
  have := b_xorC (r := r / 2) (by omega)
  rwa [show ((r / 2 : Nat) : Int) = (r : Int) / 2 by omega] at this
theorem b_xorH0 {r : Nat} (h : r < 4294967296) : bits .xor .u32 ((r : Int) / 2) 0 = (r : Int) / 2 := by
  have := b_xor0 (r := r / 2) (by omega)
  rwa [show ((r / 2 : Nat) : Int) = (r : Int) / 2 by omega] at this
theorem b_xorM {r : Nat} (h : r < 4294967296) : bits .xor .u32 IntKind.u32.max (r : Int) = ((r ^^^ 4294967295 : Nat) : Int) := b_xorF' h
theorem crcC_def (r : Nat) (c : UInt8) : crcIt 8 (r ^^^ c.toNat) = crcC r c := rfl

set_option maxHeartbeats 1000000 in
set_option maxRecDepth 100000 in
theorem refSum_any (A : Option Addr) (n c : Nat) (l : List UInt8) (w : World) (hs : SlB w A n l) (hn : n ≤ 140737488355328) :
    Calls Try.prog 10 #[.slice A n c] w fun e w' => e = .returned (.int .u32 ((sumB l : Nat) : Int)) ∧ w = w' := by
  have hll := hs.len
  go_enter Try.func10, Try.ntmps10
  go_wp2
  go_loop [3, 4, 5] (fun r i j => ∃ (k q : Nat), r = .int .u32 (q : Int) ∧ i = .int .i64 (k : Int) ∧ k ≤ n ∧ Hid (q = crcL 4294967295 (l.take k)) ∧ q < 4294967296) (fun _ i _ => n - (intOf i).toNat)
  case atStart => exact ⟨0, 4294967295, rfl, rfl, Nat.zero_le _, by rw [List.take_zero]; rfl, by omega⟩
  case round =>
    obtain ⟨k, q, rfl, rfl, hk, HQ, hq⟩ := hrel
    by_cases hlt : k < n
    · obtain ⟨b, off, x, rfl, hx, hxl, hc⟩ := hs.at_ hlt
      have hx2 : (UInt8.ofNat x).toNat = x := by rw [UInt8.toNat_ofNat']; omega
      have HS := Lib.hid (crcL_snoc (r := 4294967295) hxl)
      have HX := Lib.hid hx2
      have hxor := b_xorB hq hx
      have hq2 : q ^^^ x < 4294967296 := xor_lt32 hq (by omega)
      obtain ⟨q0, hq0⟩ : ∃ q0, q ^^^ x = q0 := ⟨_, rfl⟩
      rw [hq0] at hxor hq2
      have HQ0 := Lib.hid hq0
      clear hx2 hxl hq0
      go_wp2
      go_loop [3, 5] (fun r j => ∃ (m p : Nat), r = .int .u32 (p : Int) ∧ j = .int .i64 (m : Int) ∧ m ≤ 8 ∧ Hid (p = crcIt m q0) ∧ p < 4294967296) (fun _ j => 8 - (intOf j).toNat)
      case atStart => exact ⟨0, q0, rfl, rfl, Nat.zero_le _, rfl, hq2⟩
      case round =>
        obtain ⟨m, p, rfl, rfl, hm, HP, hp⟩ := hrel
        by_cases hmt : m < 8
        · by_cases hodd : p % 2 = 1
          · have HB := Lib.hid (crcBit_odd hodd)
            have hx3 := b_xorH hp
            have v1 : ((p : Int) % 2 == 1) = true := by simp; omega
            have hb2 : crcBit p < 4294967296 := crcBit_lt hp
            go_wp2
            go_round
            case rel => exact ⟨m + 1, crcBit p, by first | rfl | exact u32i (by rw [HB.out]), by go_num, by omega, by show _ = crcBit _; rw [HP.out], hb2⟩
            case measure => simp [intOf]; omega
          · have HB := Lib.hid (crcBit_even (show p % 2 = 0 by omega))
            have v1 : ((p : Int) % 2 == 1) = false := by simp; omega
            have hb2 : crcBit p < 4294967296 := crcBit_lt hp
            go_wp2
            go_round
            case rel => exact ⟨m + 1, crcBit p, by first | rfl | exact u32i (by rw [HB.out]; omega), by go_num, by omega, by show _ = crcBit _; rw [HP.out], hb2⟩
            case measure => simp [intOf]; omega
        · obtain rfl : m = 8 := by omega
          have HN : Hid (p = crcL 4294967295 (l.take (k + 1))) := by
            show _ = _
            rw [HS.out, HP.out, ← HQ.out, ← HQ0.out]
            show _ = crcIt 8 (q ^^^ (UInt8.ofNat x).toNat)
            rw [HX.out]
          go_wp2
          go_round
          case rel => exact ⟨k + 1, p, rfl, by go_num, by omega, HN, hp⟩
          case measure => simp [intOf]; omega
    · obtain rfl : k = n := by omega
      have HE : Hid (((q ^^^ 4294967295 : Nat) : Int) = ((sumB l : Nat) : Int)) := by
        show _ = _
        unfold sumB
        rw [HQ.out, List.take_of_length_le (by omega)]
      have hx3 := b_xorF hq
      rw [HE.out] at hx3
      go_wp2
      go_ret
      exact ⟨rfl, rfl⟩

set_option maxHeartbeats 1000000 in
set_option maxRecDepth 100000 in
theorem frameSum_any (A : Option Addr) (n c : Nat) (ls : List (List UInt8)) (w : World) (hs : SlBB w A n ls) (hn : n ≤ 140737488355328) :
    Calls Try.prog 11 #[.slice A n c] w fun e w' => e = .returned (.int .u32 ((sumB ls.flatten : Nat) : Int)) ∧ w = w' := by
  have hll := hs.len
  go_enter Try.func11, Try.ntmps11
  go_wp2
  go_loop [3, 10] (fun r i => ∃ (k q : Nat), r = .int .u32 (q : Int) ∧ i = .int .i64 (k : Int) ∧ k ≤ n ∧ Hid (q = crcL 4294967295 (ls.take k).flatten) ∧ q < 4294967296) (fun _ i => n - (intOf i).toNat)
  case atStart => exact ⟨0, 4294967295, rfl, rfl, Nat.zero_le _, by rw [List.take_zero]; rfl, by omega⟩
  case round =>
    obtain ⟨k, q, rfl, rfl, hk, HQ, hq⟩ := hrel
    by_cases hlt : k < n
    · obtain ⟨b, off, l, Ak, nk, ck, rfl, hl, hcell, sk, hck, hnk⟩ := hs.at_ hlt
      have HL := Lib.hid hl
      have hlk := Lib.hid sk.len
      clear hl
      go_wp2
      go_loop [3, 16] (fun r i => ∃ (j p : Nat), r = .int .u32 (p : Int) ∧ i = .int .i64 (j : Int) ∧ j ≤ nk ∧ Hid (p = crcL q (l.take j)) ∧ p < 4294967296) (fun _ i => nk - (intOf i).toNat)
      case atStart => exact ⟨0, q, rfl, rfl, Nat.zero_le _, by rw [List.take_zero]; rfl, hq⟩
      case round =>
        obtain ⟨j, p, rfl, rfl, hj, HP, hp⟩ := hrel
        by_cases hjt : j < nk
        · obtain ⟨b', off', x, rfl, hx, hxl, hc⟩ := sk.at_ hjt
          have hx2 : (UInt8.ofNat x).toNat = x := by rw [UInt8.toNat_ofNat']; omega
          have HS := Lib.hid (crcL_snoc (r := q) hxl)
          have HX := Lib.hid hx2
          have hxor := b_xorB hp hx
          have hq2 : p ^^^ x < 4294967296 := xor_lt32 hp (by omega)
          obtain ⟨q0, hq0⟩ : ∃ q0, p ^^^ x = q0 := ⟨_, rfl⟩
          rw [hq0] at hxor hq2
          have HQ0 := Lib.hid hq0
          clear hx2 hxl hq0
          go_wp2
          go_loop [3, 24] (fun r i => ∃ (m t : Nat), r = .int .u32 (t : Int) ∧ i = .int .i64 (m : Int) ∧ m ≤ 8 ∧ Hid (t = crcIt m q0) ∧ t < 4294967296) (fun _ i => 8 - (intOf i).toNat)
          case atStart => exact ⟨0, q0, rfl, rfl, Nat.zero_le _, rfl, hq2⟩
          case round =>
            obtain ⟨m, t, rfl, rfl, hm, HT, ht⟩ := hrel
            by_cases hmt : m < 8
            · have hb2 : crcBit t < 4294967296 := crcBit_lt ht
              by_cases hodd : t % 2 = 1
              · have HB := Lib.hid (crcBit_odd hodd)
                have a1 := b_and1 ht
                rw [hodd] at a1
                have a2 := b_mask1
                have a3 := b_xorH ht
                clear hodd
                go_wp2
                go_round
                case rel => exact ⟨m + 1, crcBit t, u32i (by rw [HB.out]), by go_num, by omega, by show _ = crcBit _; rw [HT.out], hb2⟩
                case measure => simp [intOf]; omega
              · have HB := Lib.hid (crcBit_even (show t % 2 = 0 by omega))
                have a1 := b_and1 ht
                rw [show t % 2 = 0 by omega] at a1
                have a2 := b_mask0
                have a3 := b_xorH0 ht
                clear hodd
                go_wp2
                go_round
                case rel => exact ⟨m + 1, crcBit t, u32i (by rw [HB.out]; omega), by go_num, by omega, by show _ = crcBit _; rw [HT.out], hb2⟩
                case measure => simp [intOf]; omega
            · obtain rfl : m = 8 := by omega
              have HN : Hid (t = crcL q (l.take (j + 1))) := by
                show _ = _
                rw [HS.out, HT.out, ← HP.out, ← HQ0.out]
                show _ = crcIt 8 (p ^^^ (UInt8.ofNat x).toNat)
                rw [HX.out]
              go_wp2
              go_round
              case rel => exact ⟨j + 1, t, rfl, by go_num, by omega, HN, ht⟩
              case measure => simp [intOf]; omega
        · obtain rfl : j = nk := by omega
          have HN : Hid (p = crcL 4294967295 (ls.take (k + 1)).flatten) := by
            show _ = _
            rw [List.take_add_one, HL.out, List.flatten_append, crcL_append, ← HQ.out, HP.out, List.take_of_length_le (by have := hlk.out; omega)]
            simp
          go_wp2
          go_round
          case rel => exact ⟨k + 1, p, rfl, by go_num, by omega, HN, hp⟩
          case measure => simp [intOf]; omega
    · obtain rfl : k = n := by omega
      have HE : Hid (((q ^^^ 4294967295 : Nat) : Int) = ((sumB ls.flatten : Nat) : Int)) := by
        show _ = _
        unfold sumB
        rw [HQ.out, List.take_of_length_le (by omega)]
      have hx4 := b_xorM hq
      rw [HE.out] at hx4
      go_wp2
      go_ret
      exact ⟨rfl, rfl⟩
end Go.Proofs.Ytoeeiancbiaajaa
