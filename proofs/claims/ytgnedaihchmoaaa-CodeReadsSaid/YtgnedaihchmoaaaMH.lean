/-
  Layer 2 in plain Lean: the check sum, a frame's bytes, taking a frame apart. No program is looked at here.
  Slices of slices of bytes: how they lie in memory. No program is looked at here.
  frame.Sum and firthref02.Sum: the check sum.
-/
import Derived.Test.YtgnedaihchmoaaaMA
import Derived.Laws.BitsAllLaws
import Derived.Test.YtgnedaihchmoaaaProg
import Derived.IntWalk
import Derived.OpenShut
namespace Go.Proofs.Ytgnedaihchmoaaa
set_option linter.unusedVariables false

/-- One bit of the sum's register. -/
def crcBit (r : Nat) : Nat := if r % 2 = 1 then (r / 2) ^^^ 3988292384 else r / 2
def crcIt : Nat → Nat → Nat
  | 0, r => r
  | k + 1, r => crcBit (crcIt k r)
/-- One byte. -/
def crcC (r : Nat) (c : UInt8) : Nat := crcIt 8 (r ^^^ c.toNat)
def crcL (r : Nat) (l : List UInt8) : Nat := l.foldl crcC r
/-- The check sum of bytes. -/
def sumB (l : List UInt8) : Nat := crcL 4294967295 l ^^^ 4294967295

theorem xor_lt32 {a b : Nat} (ha : a < 4294967296) (hb : b < 4294967296) : a ^^^ b < 4294967296 := Nat.xor_lt_two_pow (n := 32) ha hb
theorem crcBit_lt {r : Nat} (h : r < 4294967296) : crcBit r < 4294967296 := by
  unfold crcBit
  split
  · exact xor_lt32 (by omega) (by omega)
  · omega
theorem crcIt_lt : ∀ {k r : Nat}, r < 4294967296 → crcIt k r < 4294967296
  | 0, _, h => h
  | k + 1, _, h => crcBit_lt (crcIt_lt (k := k) h)
theorem crcC_lt {r : Nat} (h : r < 4294967296) (c : UInt8) : crcC r c < 4294967296 := crcIt_lt (xor_lt32 h (by have := UInt8.toNat_lt c; omega))
theorem crcL_lt : ∀ {l : List UInt8} {r : Nat}, r < 4294967296 → crcL r l < 4294967296
  | [], _, h => h
  | c :: l, _, h => crcL_lt (l := l) (crcC_lt h c)
theorem sumB_lt (l : List UInt8) : sumB l < 4294967296 := xor_lt32 (crcL_lt (by omega)) (by omega)
theorem crcL_append (r : Nat) (a b : List UInt8) : crcL r (a ++ b) = crcL (crcL r a) b := by unfold crcL; rw [List.foldl_append]
theorem crcL_snoc {r : Nat} {l : List UInt8} {k : Nat} {c : UInt8} (h : l[k]? = some c) : crcL r (l.take (k + 1)) = crcC (crcL r (l.take k)) c := by
  rw [List.take_add_one, h, crcL_append]; rfl

theorem crcBit_odd {r : Nat} (h : r % 2 = 1) : crcBit r = (r / 2) ^^^ 3988292384 := if_pos h
theorem crcBit_even {r : Nat} (h : r % 2 = 0) : crcBit r = r / 2 := if_neg (by omega)

/-! The model's own words on 32 bits. -/
theorem b_and1 {r : Nat} (h : r < 4294967296) : bits .and .u32 (r : Int) 1 = ((r % 2 : Nat) : Int) := by
  rw [show (1 : Int) = ((1 : Nat) : Int) from rfl, u32_and_nat r 1 h (by omega), Nat.and_one_is_mod]
theorem b_mask1 : bits .and .u32 3988292384 4294967295 = 3988292384 := by decide
theorem b_mask0 : bits .and .u32 3988292384 0 = 0 := by decide
theorem b_xor0 {r : Nat} (h : r < 4294967296) : bits .xor .u32 (r : Int) 0 = (r : Int) := by
  rw [show (0 : Int) = ((0 : Nat) : Int) from rfl, u32_xor_nat r 0 h (by omega), Nat.xor_zero]
theorem b_xorC {r : Nat} (h : r < 4294967296) : bits .xor .u32 (r : Int) 3988292384 = ((r ^^^ 3988292384 : Nat) : Int) := by
  rw [show (3988292384 : Int) = ((3988292384 : Nat) : Int) from rfl, u32_xor_nat r _ h (by omega)]
theorem b_xorF {r : Nat} (h : r < 4294967296) : bits .xor .u32 (r : Int) 4294967295 = ((r ^^^ 4294967295 : Nat) : Int) := by
  rw [show (4294967295 : Int) = ((4294967295 : Nat) : Int) from rfl, u32_xor_nat r _ h (by omega)]
theorem b_xorF' {r : Nat} (h : r < 4294967296) : bits .xor .u32 4294967295 (r : Int) = ((r ^^^ 4294967295 : Nat) : Int) := by
  rw [show (4294967295 : Int) = ((4294967295 : Nat) : Int) from rfl, u32_xor_nat _ r (by omega) h, Nat.xor_comm]
theorem b_xorB {r c : Nat} (h : r < 4294967296) (hc : c < 256) : bits .xor .u32 (r : Int) (c : Int) = ((r ^^^ c : Nat) : Int) := u32_xor_nat r c h (by omega)

/-! ### Frames -/
/-- Four bytes, the lowest first. -/
def le4 (s : Nat) : List UInt8 := [UInt8.ofNat (s % 256), UInt8.ofNat (s / 256 % 256), UInt8.ofNat (s / 65536 % 256), UInt8.ofNat (s / 16777216 % 256)]
/-- A frame: how many bytes, the sum, the bytes. -/
def putF (b : List UInt8) : List UInt8 := putNum b.length ++ le4 (sumB (putNum b.length ++ b)) ++ b
theorem le4_len (s : Nat) : (le4 s).length = 4 := rfl
theorem putF_len (b : List UInt8) : (putF b).length = (putNum b.length).length + 4 + b.length := by simp [putF, le4_len]; omega
/-- What is read of the bytes l at a place, as a frame: what is within and the place behind, or the error's number. -/
def nextF (l : List UInt8) (at_ : Nat) : Except Int (List UInt8 × Nat) :=
  match rdNum (l.drop at_) with
  | .error x => .error x
  | .ok (n, k) =>
    if 1048576 < n then .error 3
    else if l.length < at_ + k + n + 4 then .error 4
    else if le4 (sumB ((l.drop at_).take k ++ (l.drop (at_ + k + 4)).take n)) = (l.drop (at_ + k)).take 4 then .ok ((l.drop (at_ + k + 4)).take n, at_ + k + 4 + n)
    else .error 20

theorem rdNum_put {l : List UInt8} {n k : Nat} (h : rdNum l = .ok (n, k)) : l.take k = putNum n := by
  have := (rdNum_ok h).2.2.2.2
  rw [this]
  simp [putNum]
/-- What is read as a frame is a frame's bytes. -/
theorem nextF_ok {l : List UInt8} {at_ : Nat} {b : List UInt8} {e : Nat} (h : nextF l at_ = .ok (b, e)) : b.length ≤ 1048576 ∧ e ≤ l.length ∧ e = at_ + (putF b).length ∧ (l.drop at_).take (putF b).length = putF b := by
  unfold nextF at h
  split at h
  · cases h
  · rename_i n k hr
    split at h
    · cases h
    · split at h
      · cases h
      · split at h
        · rename_i h1 h2 h3
          injection h with h
          injection h with e1 e2
          subst e1 e2
          have hk := rdNum_ok hr
          have hb : ((l.drop (at_ + k + 4)).take n).length = n := by simp; omega
          have hp := rdNum_put hr
          have hpl : (putNum (n : Int)).length = k := by rw [← hp, List.length_take]; exact Nat.min_eq_left hk.2.2.1
          have hF : (putF ((l.drop (at_ + k + 4)).take n)).length = k + 4 + n := by rw [putF_len, hb, hpl]
          refine ⟨by omega, by omega, by rw [hF]; omega, ?_⟩
          rw [hF]
          unfold putF
          rw [hb, ← hp, h3]
          rw [show k + 4 + n = k + (4 + n) by omega, List.take_add, List.drop_drop, List.take_add, List.drop_drop]
          simp [List.append_assoc]
        · cases h
/-- A frame's bytes are read as that frame, whatever stands behind. -/
theorem nextF_put {b : List UInt8} (hb : b.length ≤ 1048576) (l rest : List UInt8) (at_ : Nat) (h : l.drop at_ = putF b ++ rest) (ha : at_ ≤ l.length) : nextF l at_ = .ok (b, at_ + (putF b).length) := by
  have hll : l.length = at_ + (putF b).length + rest.length := by
    have := congrArg List.length h
    simp at this
    omega
  have hr : rdNum (l.drop at_) = .ok (b.length, (putNum (b.length : Int)).length) := by
    rw [h]
    unfold putF
    rw [List.append_assoc, List.append_assoc]
    have := rdNum_putNum b.length (by omega) (le4 (sumB (putNum b.length ++ b)) ++ (b ++ rest))
    simpa [putNum] using this
  have hF := putF_len b
  have hd4 : l.drop (at_ + (putNum (b.length : Int)).length) = le4 (sumB (putNum b.length ++ b)) ++ (b ++ rest) := by
    rw [← List.drop_drop, h]
    unfold putF
    rw [List.append_assoc, List.append_assoc, List.drop_left' rfl]
  have hdb : l.drop (at_ + (putNum (b.length : Int)).length + 4) = b ++ rest := by
    rw [← List.drop_drop, hd4, List.drop_left' (le4_len _)]
  have htk : (l.drop at_).take (putNum (b.length : Int)).length = putNum b.length := by
    rw [h]
    unfold putF
    rw [List.append_assoc, List.append_assoc, List.take_left' rfl]
  unfold nextF
  rw [hr]
  simp only
  rw [if_neg (by omega), if_neg (by omega), hd4, hdb, htk, List.take_left' rfl, if_pos (List.take_left' (le4_len _)).symm, hF]
  congr 2
  omega
end Go.Proofs.Ytgnedaihchmoaaa
namespace Go.Proofs.Ytgnedaihchmoaaa
open Go.RowKit

/-- A slice of slices of bytes: the k-th reads as the k-th list. -/
def SlBB (w : World) (A : Option Addr) (n : Nat) (ls : List (List UInt8)) : Prop :=
  ls.length = n ∧ (0 < n → ∃ b off, A = some ⟨b, off, none⟩ ∧ ∀ k l, ls[k]? = some l → ∃ Ak nk ck, w.cell? ⟨b, off + k, none⟩ = some (.slice Ak nk ck) ∧ SlB w Ak nk l ∧ nk ≤ ck ∧ nk ≤ 140737488351232)
theorem SlBB.nil (w : World) (A : Option Addr) : SlBB w A 0 [] := ⟨rfl, fun h => absurd h (by simp)⟩
theorem SlBB.len {w : World} {A : Option Addr} {n : Nat} {ls : List (List UInt8)} (h : SlBB w A n ls) : ls.length = n := h.1
theorem SlBB.below {w w' : World} {A : Option Addr} {n : Nat} {ls : List (List UInt8)} (h : SlBB w A n ls) (hb : Below w.heap.size w w') : SlBB w' A n ls :=
  ⟨h.1, fun hn => by
    obtain ⟨b, off, e, hc⟩ := h.2 hn
    refine ⟨b, off, e, fun k l hl => ?_⟩
    obtain ⟨Ak, nk, ck, h1, h2, h3⟩ := hc k l hl
    exact ⟨Ak, nk, ck, (hb.cell (World.block_lt_of_cell? w _ h1)).trans h1, Sl.below h2 hb, h3⟩⟩
theorem SlBB.drewN {w : World} {A : Option Addr} {n : Nat} {ls : List (List UInt8)} (h : SlBB w A n ls) (k : Nat) : SlBB (w.drewN k) A n ls := h
theorem SlBB.at_ {w : World} {A : Option Addr} {n k : Nat} {ls : List (List UInt8)} (h : SlBB w A n ls) (hk : k < n) :
    ∃ (b off : Nat) (l : List UInt8) (Ak : Option Addr) (nk ck : Nat), A = some ⟨b, off, none⟩ ∧ ls[k]? = some l ∧ w.cell? ⟨b, off + k, none⟩ = some (.slice Ak nk ck) ∧ SlB w Ak nk l ∧ nk ≤ ck ∧ nk ≤ 140737488351232 := by
  obtain ⟨b, off, e, hc⟩ := h.2 (by omega)
  have hl := h.1
  have hx : ls[k]? = some ls[k] := List.getElem?_eq_getElem (by omega)
  obtain ⟨Ak, nk, ck, h1, h2, h3, h4⟩ := hc k _ hx
  exact ⟨b, off, _, Ak, nk, ck, e, hx, h1, h2, h3, h4⟩
/-- One slice behind the others. -/
theorem SlBB.lit3 {w : World} {A1 A2 A3 : Option Addr} {n1 n2 n3 c1 c2 c3 : Nat} {l1 l2 l3 : List UInt8} (t : TypeId) (h1 : SlB w A1 n1 l1) (h2 : SlB w A2 n2 l2) (h3 : SlB w A3 n3 l3)
    (m1 : n1 ≤ c1) (m2 : n2 ≤ c2) (m3 : n3 ≤ c3) (p1 : n1 ≤ 140737488351232) (p2 : n2 ≤ 140737488351232) (p3 : n3 ≤ 140737488351232) :
    SlBB (w.alloc (.cells #[.slice A1 n1 c1, .slice A2 n2 c2, .slice A3 n3 c3] t)) (some ⟨w.heap.size, 0, none⟩) 3 [l1, l2, l3] := by
  refine ⟨rfl, fun _ => ⟨w.heap.size, 0, rfl, fun k l hl => ?_⟩⟩
  have hb := (Below.refl w.heap.size w).alloc (Nat.le_refl _) (.cells #[.slice A1 n1 c1, .slice A2 n2 c2, .slice A3 n3 c3] t)
  rw [Nat.zero_add]
  match k, hl with
  | 0, hl => simp at hl; subst hl; exact ⟨A1, n1, c1, by rw [cell_of_row _ w.heap.size 0 _ t (0, 0) (heap_alloc_new w _)]; rfl, Sl.below h1 hb, m1, p1⟩
  | 1, hl => simp at hl; subst hl; exact ⟨A2, n2, c2, by rw [cell_of_row _ w.heap.size 1 _ t (0, 0) (heap_alloc_new w _)]; rfl, Sl.below h2 hb, m2, p2⟩
  | 2, hl => simp at hl; subst hl; exact ⟨A3, n3, c3, by rw [cell_of_row _ w.heap.size 2 _ t (0, 0) (heap_alloc_new w _)]; rfl, Sl.below h3 hb, m3, p3⟩
  | k + 3, hl => simp at hl
theorem SlBB.lit2 {w : World} {A1 A2 : Option Addr} {n1 n2 c1 c2 : Nat} {l1 l2 : List UInt8} (t : TypeId) (h1 : SlB w A1 n1 l1) (h2 : SlB w A2 n2 l2)
    (m1 : n1 ≤ c1) (m2 : n2 ≤ c2) (p1 : n1 ≤ 140737488351232) (p2 : n2 ≤ 140737488351232) :
    SlBB (w.alloc (.cells #[.slice A1 n1 c1, .slice A2 n2 c2] t)) (some ⟨w.heap.size, 0, none⟩) 2 [l1, l2] := by
  refine ⟨rfl, fun _ => ⟨w.heap.size, 0, rfl, fun k l hl => ?_⟩⟩
  have hb := (Below.refl w.heap.size w).alloc (Nat.le_refl _) (.cells #[.slice A1 n1 c1, .slice A2 n2 c2] t)
  rw [Nat.zero_add]
  match k, hl with
  | 0, hl => simp at hl; subst hl; exact ⟨A1, n1, c1, by rw [cell_of_row _ w.heap.size 0 _ t (0, 0) (heap_alloc_new w _)]; rfl, Sl.below h1 hb, m1, p1⟩
  | 1, hl => simp at hl; subst hl; exact ⟨A2, n2, c2, by rw [cell_of_row _ w.heap.size 1 _ t (0, 0) (heap_alloc_new w _)]; rfl, Sl.below h2 hb, m2, p2⟩
  | k + 2, hl => simp at hl
theorem SlBB.lit1 {w : World} {A1 : Option Addr} {n1 c1 : Nat} {l1 : List UInt8} (t : TypeId) (h1 : SlB w A1 n1 l1) (m1 : n1 ≤ c1) (p1 : n1 ≤ 140737488351232) :
    SlBB (w.alloc (.cells #[.slice A1 n1 c1] t)) (some ⟨w.heap.size, 0, none⟩) 1 [l1] := by
  refine ⟨rfl, fun _ => ⟨w.heap.size, 0, rfl, fun k l hl => ?_⟩⟩
  have hb := (Below.refl w.heap.size w).alloc (Nat.le_refl _) (.cells #[.slice A1 n1 c1] t)
  rw [Nat.zero_add]
  match k, hl with
  | 0, hl => simp at hl; subst hl; exact ⟨A1, n1, c1, by rw [cell_of_row _ w.heap.size 0 _ t (0, 0) (heap_alloc_new w _)]; rfl, Sl.below h1 hb, m1, p1⟩
  | k + 1, hl => simp at hl
end Go.Proofs.Ytgnedaihchmoaaa
namespace Go.Proofs.Ytgnedaihchmoaaa
open Go.RowKit
set_option linter.unusedVariables false

theorem u32i {a b : Int} (h : a = b) : Value.int .u32 a = Value.int .u32 b := by rw [h]
theorem b_xorH {r : Nat} (h : r < 4294967296) : bits .xor .u32 ((r : Int) / 2) 3988292384 = (((r / 2) ^^^ 3988292384 : Nat) : Int) := by
  have := b_xorC (r := r / 2) (by omega)
  rwa [show ((r / 2 : Nat) : Int) = (r : Int) / 2 by omega] at this
theorem b_xorH0 {r : Nat} (h : r < 4294967296) : bits .xor .u32 ((r : Int) / 2) 0 = (r : Int) / 2 := by
  have := b_xor0 (r := r / 2) (by omega)
  rwa [show ((r / 2 : Nat) : Int) = (r : Int) / 2 by omega] at this
theorem b_xorM {r : Nat} (h : r < 4294967296) : bits .xor .u32 IntKind.u32.max (r : Int) = ((r ^^^ 4294967295 : Nat) : Int) := b_xorF' h
theorem crcC_def (r : Nat) (c : UInt8) : crcIt 8 (r ^^^ c.toNat) = crcC r c := rfl

set_option maxHeartbeats 1000000 in
set_option maxRecDepth 100000 in
theorem refSum_any (A : Option Addr) (n c : Nat) (l : List UInt8) (w : World) (hs : SlB w A n l) (hn : n ≤ 140737488355328) :
    Calls Try.prog 89 #[.slice A n c] w fun e w' => e = .returned (.int .u32 ((sumB l : Nat) : Int)) ∧ w = w' := by
  have hll := hs.len
  go_enter Try.func89, Try.ntmps89
  go_wp2
  go_loop [3, 4, 5] (fun r i j => ∃ (k q : Nat), r = .int .u32 (q : Int) ∧ i = .int .i64 (k : Int) ∧ k ≤ n ∧ Hid (q = crcL 4294967295 (l.take k)) ∧ q < 4294967296) (fun _ i _ => n - (intOf i).toNat)
  case atStart => exact ⟨0, 4294967295, rfl, rfl, Nat.zero_le _, by rw [List.take_zero]; rfl, by omega⟩
  case round =>
    obtain ⟨k, q, rfl, rfl, hk, HQ, hq⟩ := hrel
    by_cases hlt : k < n
    · obtain ⟨b, off, x, rfl, hx, hxl, hc⟩ := hs.at_ hlt
      have hx2 : (UInt8.ofNat x).toNat = x := by rw [UInt8.toNat_ofNat']; omega
      have HS := Lib.hid (crcL_snoc (r := 4294967295) hxl)
      have HX := Lib.hid hx2
      have hxor := b_xorB hq hx
      have hq2 : q ^^^ x < 4294967296 := xor_lt32 hq (by omega)
      obtain ⟨q0, hq0⟩ : ∃ q0, q ^^^ x = q0 := ⟨_, rfl⟩
      rw [hq0] at hxor hq2
      have HQ0 := Lib.hid hq0
      clear hx2 hxl hq0
      go_wp2
      go_loop [3, 5] (fun r j => ∃ (m p : Nat), r = .int .u32 (p : Int) ∧ j = .int .i64 (m : Int) ∧ m ≤ 8 ∧ Hid (p = crcIt m q0) ∧ p < 4294967296) (fun _ j => 8 - (intOf j).toNat)
      case atStart => exact ⟨0, q0, rfl, rfl, Nat.zero_le _, rfl, hq2⟩
      case round =>
        obtain ⟨m, p, rfl, rfl, hm, HP, hp⟩ := hrel
        by_cases hmt : m < 8
        · by_cases hodd : p % 2 = 1
          · have HB := Lib.hid (crcBit_odd hodd)
            have hx3 := b_xorH hp
            have v1 : ((p : Int) % 2 == 1) = true := by simp; omega
            have hb2 : crcBit p < 4294967296 := crcBit_lt hp
            go_wp2
            go_round
            case rel => exact ⟨m + 1, crcBit p, by first | rfl | exact u32i (by rw [HB.out]), by go_num, by omega, by show _ = crcBit _; rw [HP.out], hb2⟩
            case measure => simp [intOf]; omega
          · have HB := Lib.hid (crcBit_even (show p % 2 = 0 by omega))
            have v1 : ((p : Int) % 2 == 1) = false := by simp; omega
            have hb2 : crcBit p < 4294967296 := crcBit_lt hp
            go_wp2
            go_round
            case rel => exact ⟨m + 1, crcBit p, by first | rfl | exact u32i (by rw [HB.out]; omega), by go_num, by omega, by show _ = crcBit _; rw [HP.out], hb2⟩
            case measure => simp [intOf]; omega
        · obtain rfl : m = 8 := by omega
          have HN : Hid (p = crcL 4294967295 (l.take (k + 1))) := by
            show _ = _
            rw [HS.out, HP.out, ← HQ.out, ← HQ0.out]
            show _ = crcIt 8 (q ^^^ (UInt8.ofNat x).toNat)
            rw [HX.out]
          go_wp2
          go_round
          case rel => exact ⟨k + 1, p, rfl, by go_num, by omega, HN, hp⟩
          case measure => simp [intOf]; omega
    · obtain rfl : k = n := by omega
      have HE : Hid (((q ^^^ 4294967295 : Nat) : Int) = ((sumB l : Nat) : Int)) := by
        show _ = _
        unfold sumB
        rw [HQ.out, List.take_of_length_le (by omega)]
      have hx3 := b_xorF hq
      rw [HE.out] at hx3
      go_wp2
      go_ret
      exact ⟨rfl, rfl⟩

set_option maxHeartbeats 1000000 in
set_option maxRecDepth 100000 in
theorem frameSum_any (A : Option Addr) (n c : Nat) (ls : List (List UInt8)) (w : World) (hs : SlBB w A n ls) (hn : n ≤ 140737488355328) :
    Calls Try.prog 85 #[.slice A n c] w fun e w' => e = .returned (.int .u32 ((sumB ls.flatten : Nat) : Int)) ∧ w = w' := by
  have hll := hs.len
  go_enter Try.func85, Try.ntmps85
  go_wp2
  go_loop [3, 10] (fun r i => ∃ (k q : Nat), r = .int .u32 (q : Int) ∧ i = .int .i64 (k : Int) ∧ k ≤ n ∧ Hid (q = crcL 4294967295 (ls.take k).flatten) ∧ q < 4294967296) (fun _ i => n - (intOf i).toNat)
  case atStart => exact ⟨0, 4294967295, rfl, rfl, Nat.zero_le _, by rw [List.take_zero]; rfl, by omega⟩
  case round =>
    obtain ⟨k, q, rfl, rfl, hk, HQ, hq⟩ := hrel
    by_cases hlt : k < n
    · obtain ⟨b, off, l, Ak, nk, ck, rfl, hl, hcell, sk, hck, hnk⟩ := hs.at_ hlt
      have HL := Lib.hid hl
      have hlk := Lib.hid sk.len
      clear hl
      go_wp2
      go_loop [3, 16] (fun r i => ∃ (j p : Nat), r = .int .u32 (p : Int) ∧ i = .int .i64 (j : Int) ∧ j ≤ nk ∧ Hid (p = crcL q (l.take j)) ∧ p < 4294967296) (fun _ i => nk - (intOf i).toNat)
      case atStart => exact ⟨0, q, rfl, rfl, Nat.zero_le _, by rw [List.take_zero]; rfl, hq⟩
      case round =>
        obtain ⟨j, p, rfl, rfl, hj, HP, hp⟩ := hrel
        by_cases hjt : j < nk
        · obtain ⟨b', off', x, rfl, hx, hxl, hc⟩ := sk.at_ hjt
          have hx2 : (UInt8.ofNat x).toNat = x := by rw [UInt8.toNat_ofNat']; omega
          have HS := Lib.hid (crcL_snoc (r := q) hxl)
          have HX := Lib.hid hx2
          have hxor := b_xorB hp hx
          have hq2 : p ^^^ x < 4294967296 := xor_lt32 hp (by omega)
          obtain ⟨q0, hq0⟩ : ∃ q0, p ^^^ x = q0 := ⟨_, rfl⟩
          rw [hq0] at hxor hq2
          have HQ0 := Lib.hid hq0
          clear hx2 hxl hq0
          go_wp2
          go_loop [3, 24] (fun r i => ∃ (m t : Nat), r = .int .u32 (t : Int) ∧ i = .int .i64 (m : Int) ∧ m ≤ 8 ∧ Hid (t = crcIt m q0) ∧ t < 4294967296) (fun _ i => 8 - (intOf i).toNat)
          case atStart => exact ⟨0, q0, rfl, rfl, Nat.zero_le _, rfl, hq2⟩
          case round =>
            obtain ⟨m, t, rfl, rfl, hm, HT, ht⟩ := hrel
            by_cases hmt : m < 8
            · have hb2 : crcBit t < 4294967296 := crcBit_lt ht
              by_cases hodd : t % 2 = 1
              · have HB := Lib.hid (crcBit_odd hodd)
                have a1 := b_and1 ht
                rw [hodd] at a1
                have a2 := b_mask1
                have a3 := b_xorH ht
                clear hodd
                go_wp2
                go_round
                case rel => exact ⟨m + 1, crcBit t, u32i (by rw [HB.out]), by go_num, by omega, by show _ = crcBit _; rw [HT.out], hb2⟩
                case measure => simp [intOf]; omega
              · have HB := Lib.hid (crcBit_even (show t % 2 = 0 by omega))
                have a1 := b_and1 ht
                rw [show t % 2 = 0 by omega] at a1
                have a2 := b_mask0
                have a3 := b_xorH0 ht
                clear hodd
                go_wp2
                go_round
                case rel => exact ⟨m + 1, crcBit t, u32i (by rw [HB.out]; omega), by go_num, by omega, by show _ = crcBit _; rw [HT.out], hb2⟩
                case measure => simp [intOf]; omega
            · obtain rfl : m = 8 := by omega
              have HN : Hid (t = crcL q (l.take (j + 1))) := by
                show _ = _
                rw [HS.out, HT.out, ← HP.out, ← HQ0.out]
                show _ = crcIt 8 (p ^^^ (UInt8.ofNat x).toNat)
                rw [HX.out]
              go_wp2
              go_round
              case rel => exact ⟨j + 1, t, rfl, by go_num, by omega, HN, ht⟩
              case measure => simp [intOf]; omega
        · obtain rfl : j = nk := by omega
          have HN : Hid (p = crcL 4294967295 (ls.take (k + 1)).flatten) := by
            show _ = _
            rw [List.take_add_one, HL.out, List.flatten_append, crcL_append, ← HQ.out, HP.out, List.take_of_length_le (by have := hlk.out; omega)]
            simp
          go_wp2
          go_round
          case rel => exact ⟨k + 1, p, rfl, by go_num, by omega, HN, hp⟩
          case measure => simp [intOf]; omega
    · obtain rfl : k = n := by omega
      have HE : Hid (((q ^^^ 4294967295 : Nat) : Int) = ((sumB ls.flatten : Nat) : Int)) := by
        show _ = _
        unfold sumB
        rw [HQ.out, List.take_of_length_le (by omega)]
      have hx4 := b_xorM hq
      rw [HE.out] at hx4
      go_wp2
      go_ret
      exact ⟨rfl, rfl⟩
end Go.Proofs.Ytgnedaihchmoaaa
