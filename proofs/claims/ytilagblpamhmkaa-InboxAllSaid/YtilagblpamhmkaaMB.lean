/-
  num.PutNum and firthref01.PutNum write the number's bytes, in new memory.
  num.Num and firthref01.Num read a number.
  firthref01.Num reads a number.
  num.Num at every place, right or not.
  append as one step of a region that draws its order. No program is looked at here.
  Slices of spans that a call makes; firthref03.Same: two lists of spans are the same.
  Footprints: which blocks a piece of state lies in, and what a call leaves alone. No program is looked at here.
  A region that draws its order and whose callees make memory but answer plain values: one walk, in the text's order, in every world that has grown out of the region's own. No program is looked at here.
  A region's operation by its place in the list. No program is looked at here.
  firth/code's reader: a number, an int, a span; a list of spans.
  firth/code's reader: a span.
  firth/code.take at spans.
-/
import Derived.Test.YtilagblpamhmkaaMA
import Derived.Test.YtilagblpamhmkaaProg
import Derived.Laws.BitsAllLaws
import Derived.Deep.LoopGhost
import Derived.Deep.RegionLaw
import Derived.Deep.QuietTactic
import Derived.BigQuiet
import Derived.OpenShut
import Derived.OneCell
import Derived.Maps.OwnSet
import Derived.Lib.SlBytesConst
import Derived.Deep.RegionHeld3
import Derived.WalkSmall
namespace Go.Proofs.Ytilagblpamhmkaa
open Go.RowKit

theorem Try.infoU8 : (Try.prog.info? 5).map (fun i => (i.zero, i.size, i.bytes)) = some (some (.int .u8 0), 1, 1) := by kernel_rfl

/-- What a call leaves that answers new bytes. -/
def NewBytes (w : World) (l : List UInt8) (e : Ending) (w' : World) : Prop :=
  ∃ v, e = .returned v ∧ w'.ownsRow w.heap.size 5 1 v l.length (bsV l) ∧ Below w.heap.size w w'

theorem NewBytes.read {w w' : World} {l : List UInt8} {e : Ending} (h : NewBytes w l e w') :
    ∃ A n c, e = .returned (.slice A n c) ∧ SlB w' A n l ∧ n ≤ c ∧ c ≤ maxLen ∧ Below w.heap.size w w' ∧ w'.ownsRow w.heap.size 5 1 (.slice A n c) n (bsV l) := by
  obtain ⟨v, rfl, hown, hbel⟩ := h
  obtain ⟨A, c, rfl, h1, h2⟩ := own_slice hown
  exact ⟨A, l.length, c, rfl, Sl.of_own hown, h1, h2, hbel, hown⟩

theorem byte_or (m : Nat) : (Value.int .u8 (bits .or .u8 ((m : Int) % 256) 128)) = bV (UInt8.ofNat (m % 128 + 128)) := by
  rw [u8_or _ _ (by omega) (by omega) (by omega) (by omega)]
  have e : ((m : Int) % 256).toNat = m % 256 := by omega
  rw [e]
  have h2 := or_128 (m % 256) (by omega)
  simp only [bV, UInt8.toNat_ofNat']
  congr 1
  rw [show ((128 : Int).toNat) = 128 from rfl, h2]
  omega
theorem byte_low (m : Nat) (h : m ≤ 127) : (Value.int .u8 (m : Int)) = bV (UInt8.ofNat m) := by
  simp only [bV, UInt8.toNat_ofNat']
  congr 1
  omega

set_option maxHeartbeats 400000 in
set_option maxRecDepth 100000 in
theorem putNum_any (n : Int) (w : World) (hn : n ≤ 9223372036854775807) :
    Calls Try.prog 92 #[.int .i64 n] w (NewBytes w (putNum n)) := by
  obtain ⟨i0, hi, hz0, hz1, hz2⟩ := info_parts Try.infoU8
  have Hst := Lib.hid (PutInv.start (N := n.toNat) (by omega))
  by_cases h0 : 0 ≤ n
  all_goals
    have hmax := Lib.hid (show max n 0 = (n.toNat : Int) by omega)
    go_enter Try.func92, Try.ntmps92
    go_wp2
    go_loopw [3, 4] (fun b u wr => ∃ (m : Nat) (acc : List UInt8), u = .int .u64 (m : Int) ∧ Hid (PutInv n.toNat acc m) ∧ acc.length ≤ 8 ∧ wr.ownsRow w.heap.size 5 1 b acc.length (bsV acc) ∧ Below w.heap.size w wr)
      (fun _ u _ => (intOf u).toNat)
    case atStart => exact ⟨n.toNat, [], (by congr 1; omega), Hst, by simp, World.ownsRow_nil _ _ _ _, Below.refl _ _⟩
    case round =>
      obtain ⟨m, acc, rfl, Hinv, hlen, hown, hbel⟩ := hrel
      have hsz := hbel.size
      by_cases hlt : 127 < m
      · go_wp2_with (at_builtin; refine wpList_append_own _ rfl _ _ 24 rfl (w.heap.size) 5 i0 (.int .u8 0) 1 1 Try.underlying24 hi hz0 hz1 hz2 rfl (by decide) _ _ _ rfl (World.ownsRow.alloc hown _) ⟨(wr).heap.size, 0, none⟩ 1 1 _ rfl rfl (cell_one_new _ _ _) (by intro u hu; simp at hu; subst hu; rfl) (by unfold maxLen; omega) (by omega) (by simp; omega) ?_)
        intro v' w1 hown' hgrow _
        have R1 := own_byte hown' rfl (byte_or m)
        have R2 := below_push hbel hown hgrow hsz (Nat.le_refl _)
        clear hown' hgrow hown hbel
        go_wp2
        go_roundw
        case rel => exact ⟨m / 128, _, by go_num, Hinv.out.step (by omega), (Hinv.out.step (by omega)).len, R1, R2⟩
        case measure => simp [intOf]; omega
      · go_wp2_with (at_builtin; refine wpList_append_own _ rfl _ _ 24 rfl (w.heap.size) 5 i0 (.int .u8 0) 1 1 Try.underlying24 hi hz0 hz1 hz2 rfl (by decide) _ _ _ rfl (World.ownsRow.alloc hown _) ⟨(wr).heap.size, 0, none⟩ 1 1 _ rfl rfl (cell_one_new _ _ _) (by intro u hu; simp at hu; subst hu; rfl) (by unfold maxLen; omega) (by omega) (by simp; omega) ?_)
        intro v' w1 hown' hgrow _
        have R1 := own_byte hown' rfl (byte_low m (by omega))
        have R2 := below_push hbel hown hgrow hsz (Nat.le_refl _)
        clear hown' hgrow hown hbel
        go_wp2
        go_ret
        refine ⟨v', rfl, ?_, R2⟩
        have e := Hinv.out.stop (show m < 128 by omega)
        rw [e] at R1
        exact R1

theorem byte_high (m : Nat) : (Value.int .u8 ((m : Int) % 128 + 128)) = bV (UInt8.ofNat (m % 128 + 128)) := by
  simp only [bV, UInt8.toNat_ofNat']
  congr 1
  omega

end Go.Proofs.Ytilagblpamhmkaa
namespace Go.Proofs.Ytilagblpamhmkaa
open Go.RowKit

/-- Where the loop that reads a number stands: k bytes of L are read, acc is their number. -/
def RdInv (L : List UInt8) (k acc : Nat) : Prop := k ≤ 8 ∧ acc < 128 ^ k ∧ rdN (L.drop k) k acc = rdNum L
theorem RdInv.start (L : List UInt8) : RdInv L 0 0 := ⟨by omega, by simp, by simp [rdNum]⟩


theorem RdInv.cons {L : List UInt8} {k c : Nat} (hl : L[k]? = some (UInt8.ofNat c)) : L.drop k = UInt8.ofNat c :: L.drop (k + 1) := by
  obtain ⟨h, e⟩ := List.getElem?_eq_some_iff.1 hl
  rw [List.drop_eq_getElem_cons h, e]
theorem RdInv.stop {L : List UInt8} {k acc : Nat} (h : RdInv L k acc) (hk : L.length ≤ k) : rdNum L = .error 4 := by
  rw [← h.2.2, List.drop_of_length_le hk]; rfl
theorem RdInv.bad {L : List UInt8} {k acc c : Nat} (h : RdInv L k acc) (hc : c < 256) (hl : L[k]? = some (UInt8.ofNat c)) (hb : (8 ≤ k ∧ 128 ≤ c) ∨ (0 < k ∧ c ≤ 0)) : rdNum L = .error 2 := by
  rw [← h.2.2, RdInv.cons hl]; unfold rdN; rw [byte_toNat c hc, if_pos (by have := h.1; omega)]
theorem RdInv.ok {L : List UInt8} {k acc c : Nat} (h : RdInv L k acc) (hc : c < 256) (hl : L[k]? = some (UInt8.ofNat c)) (hb : ¬ (0 < k ∧ c ≤ 0)) (h1 : c < 128) : rdNum L = .ok (acc + c * 128 ^ k, k + 1) := by
  rw [← h.2.2, RdInv.cons hl]; unfold rdN; rw [byte_toNat c hc, if_neg (by omega), if_pos h1]
theorem RdInv.go {L : List UInt8} {k acc c : Nat} (h : RdInv L k acc) (hc : c < 256) (hl : L[k]? = some (UInt8.ofNat c)) (hb : k < 8) (h1 : 128 ≤ c) : RdInv L (k + 1) (acc + c % 128 * 128 ^ k) := by
  refine ⟨by omega, ?_, ?_⟩
  · have h2 := h.2.1
    have h4 : 128 ^ (k + 1) = 128 ^ k * 128 := Nat.pow_succ ..
    have h5 : c % 128 * 128 ^ k ≤ 127 * 128 ^ k := Nat.mul_le_mul_right _ (by omega)
    omega
  · rw [← h.2.2, RdInv.cons hl]; conv => rhs; unfold rdN
    rw [byte_toNat c hc, if_neg (by omega), if_neg (by omega)]

def numVal (at_ : Nat) : Except Int (Nat × Nat) → Value
  | .ok (n, k) => .tuple #[.int .i64 (n : Int), .int .i64 ((at_ + k : Nat) : Int), .int .i64 0]
  | .error x => .tuple #[.int .i64 0, .int .i64 0, .int .i64 x]
/-- What a call answers that reads a number and changes nothing. -/
def NumAns (w : World) (at_ : Nat) (r : Except Int (Nat × Nat)) (e : Ending) (w' : World) : Prop := e = .returned (numVal at_ r) ∧ w = w'

theorem pow_7 (k : Nat) : (2 : Nat) ^ (7 * k) = 128 ^ k := by rw [Nat.pow_mul]
theorem small_128 {y k : Nat} (hy : y < 128) (hk : k ≤ 8) : y * 128 ^ k < 9223372036854775808 := by
  have h1 : y * 128 ^ k ≤ 127 * 128 ^ 8 := Nat.mul_le_mul (by omega) (Nat.pow_le_pow_right (by omega) hk)
  have h2 : (127 : Nat) * 128 ^ 8 < 9223372036854775808 := by decide
  omega
theorem small_acc {acc k : Nat} (h : acc < 128 ^ k) (hk : k ≤ 8) : acc < 72057594037927936 := by
  have h1 : (128 : Nat) ^ k ≤ 128 ^ 8 := Nat.pow_le_pow_right (by omega) hk
  have h2 : (128 : Nat) ^ 8 = 72057594037927936 := by decide
  omega
theorem shl_7 {y k : Nat} (hy : y < 128) (hk : k ≤ 8) : IntKind.u64.wrap ((y : Int) * 2 ^ (7 * k)) = ((y * 128 ^ k : Nat) : Int) := by
  have h1 := small_128 hy hk
  have e : (y : Int) * 2 ^ (7 * k) = ((y * 128 ^ k : Nat) : Int) := by
    rw [← pow_7]; push_cast; rfl
  rw [e, IntKind.wrap_u64]
  omega
theorem or_sum {acc y k : Nat} (h : acc < 128 ^ k) : acc ||| y * 128 ^ k = acc + y * 128 ^ k := by
  rw [← pow_7] at h ⊢
  have := Nat.two_pow_add_eq_or_of_lt h y
  rw [Nat.or_comm, Nat.mul_comm y, ← this]
  omega
theorem or_shl {acc y k : Nat} (hy : y < 128) (hk : k ≤ 8) (h : acc < 128 ^ k) :
    bits .or .u64 (acc : Int) (IntKind.u64.wrap ((y : Int) * 2 ^ (7 * k))) = ((acc + y * 128 ^ k : Nat) : Int) := by
  have h1 := small_128 hy hk
  have h2 := small_acc h hk
  rw [shl_7 hy hk, u64_or_nat _ _ (by omega) (by omega), or_sum h]
theorem wrap_or_shl {acc y k : Nat} (hy : y < 128) (hk : k ≤ 8) (h : acc < 128 ^ k) :
    wrap64 (bits .or .u64 (acc : Int) (IntKind.u64.wrap ((y : Int) * 2 ^ (7 * k)))) = ((acc + y * 128 ^ k : Nat) : Int) := by
  have h1 : acc + y * 128 ^ k < 9223372036854775808 := by
    have h2 : 127 * 128 ^ k + 128 ^ k ≤ 128 * 128 ^ 8 := by
      have : (128 : Nat) ^ k ≤ 128 ^ 8 := Nat.pow_le_pow_right (by omega) hk
      omega
    have h3 : y * 128 ^ k ≤ 127 * 128 ^ k := Nat.mul_le_mul_right _ (by omega)
    have h4 : (128 : Nat) * 128 ^ 8 = 9223372036854775808 := by decide
    omega
  rw [or_shl hy hk h]
  exact IntWalk.wrap64_in _ (by omega)
theorem num_ok_val {acc x k at_ : Nat} (hy : x < 128) (hk : k ≤ 8) (h : acc < 128 ^ k) :
    (Value.tuple #[.int .i64 (wrap64 (bits .or .u64 (acc : Int) (IntKind.u64.wrap ((x : Int) * 2 ^ (7 * k))))), .int .i64 ((at_ : Int) + k + 1), .int .i64 0]) = numVal at_ (.ok (acc + x * 128 ^ k, k + 1)) := by
  rw [wrap_or_shl hy hk h]
  simp only [numVal]
  congr 3
theorem and_127_u8 {x : Nat} (h : x < 256) : bits .and .u8 (x : Int) 127 = ((x % 128 : Nat) : Int) := by
  have := u8_and_nat x 127 h (by omega)
  rw [and_127 x h] at this
  exact this
theorem num_go_val {acc x k : Nat} (hx : x < 256) (hk : k ≤ 8) (h : acc < 128 ^ k) :
    bits .or .u64 (acc : Int) (IntKind.u64.wrap (IntKind.u64.wrap (bits .and .u8 (x : Int) 127) * 2 ^ (7 * k))) = ((acc + x % 128 * 128 ^ k : Nat) : Int) := by
  rw [and_127_u8 hx, show IntKind.u64.wrap ((x % 128 : Nat) : Int) = ((x % 128 : Nat) : Int) by rw [IntKind.wrap_u64]; omega]
  exact or_shl (by omega) hk h
theorem num_ok_end {L : List UInt8} {acc x k at_ : Nat} (h : RdInv L k acc) (hc : x < 256) (hl : L[k]? = some (UInt8.ofNat x)) (hb : ¬ (0 < k ∧ x ≤ 0)) (h1 : x < 128) :
    (Value.tuple #[.int .i64 (wrap64 (bits .or .u64 (acc : Int) (IntKind.u64.wrap ((x : Int) * 2 ^ (7 * k))))), .int .i64 ((at_ : Int) + k + 1), .int .i64 0]) = numVal at_ (rdNum L) := by
  rw [h.ok hc hl hb h1]; exact num_ok_val h1 h.1 h.2.1
theorem num_ok_end8 {L : List UInt8} {acc x k at_ : Nat} (h : RdInv L k acc) (hc : x < 256) (hl : L[k]? = some (UInt8.ofNat x)) (hb : ¬ (0 < k ∧ x ≤ 0)) (h1 : x < 128) (hk : 8 ≤ k) :
    (Value.tuple #[.int .i64 (wrap64 (bits .or .u64 (acc : Int) ((x : Int) * 72057594037927936))), .int .i64 ((at_ : Int) + 8 + 1), .int .i64 0]) = numVal at_ (rdNum L) := by
  obtain rfl : k = 8 := by have := h.1; omega
  rw [← num_ok_end (at_ := at_) h hc hl hb h1, shl_7 h1 (Nat.le_refl _)]
  have e : (x : Int) * 72057594037927936 = ((x * 128 ^ 8 : Nat) : Int) := by omega
  rw [e]
  rfl
theorem num_bad_end {L : List UInt8} {acc x k at_ : Nat} (h : RdInv L k acc) (hc : x < 256) (hl : L[k]? = some (UInt8.ofNat x)) (hb : (8 ≤ k ∧ 128 ≤ x) ∨ (0 < k ∧ x ≤ 0)) :
    (Value.tuple #[.int .i64 0, .int .i64 0, .int .i64 2]) = numVal at_ (rdNum L) := by
  rw [h.bad hc hl hb]; rfl

set_option maxHeartbeats 4000000 in
set_option maxRecDepth 100000 in
theorem num_in (A : Option Addr) (n c at_ : Nat) (l : List UInt8) (w : World) (hs : SlB w A n l) (hc : n ≤ c) (hcap : n ≤ 140737488351232) (hat : at_ < n) :
    Calls Try.prog 93 #[.slice A n c, .int .i64 (at_ : Int)] w (NumAns w at_ (rdNum (l.drop at_))) := by
  have hll := hs.len
  obtain ⟨b, off, -, rfl, -, -, -⟩ := hs.at_ hat
  have hne : ¬ c = at_ := by omega
  go_enter Try.func93, Try.ntmps93
  go_wp2
  go_step3
  go_wp2
  go_step3
  go_wp2
  go_loop [7, 8, 23] (fun e x i => ∃ (k acc : Nat), e = .int .i64 4 ∧ x = .int .u64 (acc : Int) ∧ i = .int .i64 (k : Int) ∧ k ≤ 8 ∧ k ≤ n - at_ ∧ Hid (RdInv (l.drop at_) k acc)) (fun _ _ i => n - (intOf i).toNat)
  case atStart => exact ⟨0, 0, rfl, rfl, rfl, by omega, by omega, RdInv.start _⟩
  case round =>
    obtain ⟨k, acc, rfl, rfl, rfl, hk8, hkn, Hinv⟩ := hrel
    by_cases hlt : k < n - at_
    · obtain ⟨b', off', x, hA, hx, hlx, hcell⟩ := hs.at_ (k := at_ + k) (by omega)
      injection hA with hA
      injection hA with hb' ho'
      subst hb' ho'
      rw [← List.getElem?_drop] at hlx
      have Hl := Lib.hid hlx
      clear hlx
      rw [show off + (at_ + k) = off + at_ + k from by omega] at hcell
      have hcases : ((8 ≤ k ∧ 128 ≤ x) ∨ (0 < k ∧ x ≤ 0)) ∨ (¬ (0 < k ∧ x ≤ 0) ∧ x < 128) ∨ (k < 8 ∧ 128 ≤ x) := by omega
      have hkc : k ≤ 0 ∨ (0 < k ∧ k < 8) ∨ (0 < k ∧ 8 ≤ k) := by omega
      have hxc : x ≤ 0 ∨ (0 < x ∧ x < 128) ∨ 128 ≤ x := by omega
      clear hcases
      rcases hkc with hk0 | ⟨hk0, hk1⟩ | ⟨hk0, hk1⟩ <;> rcases hxc with hx0 | ⟨hx0, hx1⟩ | hx0
      · go_wp2
        go_ret3
        exact ⟨congrArg Ending.returned (num_ok_end Hinv.out hx Hl.out (by omega) (by omega)), rfl⟩
      · go_wp2
        go_ret3
        exact ⟨congrArg Ending.returned (num_ok_end Hinv.out hx Hl.out (by omega) (by omega)), rfl⟩
      · go_wp2
        refine ⟨⟨_, _, _, _, _, _, _, _, ⟨rfl, k + 1, acc + x % 128 * 128 ^ k, ?_, rfl, by omega, by omega, Hinv.out.go hx Hl.out (by omega) (by omega)⟩, rfl, rfl, rfl, rfl, rfl, rfl, rfl, rfl⟩, ?_⟩
        · rw [num_go_val hx hk8 Hinv.out.2.1]
        · simp [intOf]; omega
      · go_wp2
        all_goals
          go_ret3
          exact ⟨congrArg Ending.returned (num_bad_end Hinv.out hx Hl.out (by omega)), rfl⟩
      · go_wp2
        go_ret3
        exact ⟨congrArg Ending.returned (num_ok_end Hinv.out hx Hl.out (by omega) (by omega)), rfl⟩
      · go_wp2
        refine ⟨⟨_, _, _, _, _, _, _, _, ⟨rfl, k + 1, acc + x % 128 * 128 ^ k, ?_, rfl, by omega, by omega, Hinv.out.go hx Hl.out (by omega) (by omega)⟩, rfl, rfl, rfl, rfl, rfl, rfl, rfl, rfl⟩, ?_⟩
        · rw [num_go_val hx hk8 Hinv.out.2.1]
        · simp [intOf]; omega
      · go_wp2
        all_goals
          go_ret3
          exact ⟨congrArg Ending.returned (num_bad_end Hinv.out hx Hl.out (by omega)), rfl⟩
      · go_wp2
        go_ret3
        exact ⟨congrArg Ending.returned (num_ok_end8 Hinv.out hx Hl.out (by omega) (by omega) (by omega)), rfl⟩
      · go_wp2
        all_goals
          go_ret3
          exact ⟨congrArg Ending.returned (num_bad_end Hinv.out hx Hl.out (by omega)), rfl⟩
    · go_wp2
      go_ret3
      exact ⟨by rw [Hinv.out.stop (by simp; omega)]; rfl, rfl⟩
end Go.Proofs.Ytilagblpamhmkaa
namespace Go.Proofs.Ytilagblpamhmkaa
open Go.RowKit
set_option linter.unusedVariables false

theorem ref_acc {acc x k o : Nat} (hk : k ≤ 8) (h : acc < 128 ^ k) (ho : o = 128 ^ k) :
    wrap64 ((acc : Int) + wrap64 ((x : Int) % 128 * (o : Int))) = ((acc + x % 128 * 128 ^ k : Nat) : Int) := by
  subst ho
  obtain ⟨y, hy⟩ : ∃ y, y = x % 128 * 128 ^ k := ⟨_, rfl⟩
  have e : (x : Int) % 128 * ((128 ^ k : Nat) : Int) = (y : Int) := by rw [hy]; push_cast; rfl
  have h3 : acc + y < 9223372036854775808 := by
    have h4 : 128 ^ k ≤ 128 ^ 8 := Nat.pow_le_pow_right (by omega) hk
    have h5 : y ≤ 127 * 128 ^ k := by rw [hy]; exact Nat.mul_le_mul_right _ (by omega)
    have h6 : (128 : Nat) * 128 ^ 8 = 9223372036854775808 := by decide
    omega
  rw [← hy, e, IntWalk.wrap64_in (y : Int) (by omega), IntWalk.wrap64_in _ (by omega)]
  push_cast
  rfl
theorem ref_one {k o : Nat} (hk : k < 8) (ho : o = 128 ^ k) : wrap64 ((o : Int) * 128) = ((128 ^ (k + 1) : Nat) : Int) ∧ 128 ^ (k + 1) ≤ 72057594037927936 := by
  have h1 : (128 : Nat) ^ (k + 1) ≤ 128 ^ 8 := Nat.pow_le_pow_right (by omega) (by omega)
  have h2 : (128 : Nat) ^ 8 = 72057594037927936 := by decide
  have h3 : (128 : Nat) ^ (k + 1) = 128 ^ k * 128 := Nat.pow_succ ..
  have e : (o : Int) * 128 = ((128 ^ (k + 1) : Nat) : Int) := by rw [h3, ho]; push_cast; rfl
  rw [e]
  refine ⟨?_, by omega⟩
  generalize (128 : Nat) ^ (k + 1) = y at *
  rw [IntWalk.wrap64_in _ (by omega)]
theorem ref_ok_end {L : List UInt8} {acc x k o at_ : Nat} (h : RdInv L k acc) (ho : o = 128 ^ k) (hc : x < 256) (hl : L[k]? = some (UInt8.ofNat x)) (hb : ¬ (0 < k ∧ x ≤ 0)) (h1 : x < 128) :
    (Value.tuple #[.int .i64 (wrap64 ((acc : Int) + wrap64 ((x : Int) % 128 * (o : Int)))), .int .i64 ((at_ : Int) + k + 1), .int .i64 0]) = numVal at_ (rdNum L) := by
  rw [h.ok hc hl hb h1, ref_acc h.1 h.2.1 ho, Nat.mod_eq_of_lt h1]
  simp only [numVal]
  congr 3
theorem ref_ok_end8 {L : List UInt8} {acc x k o at_ : Nat} (h : RdInv L k acc) (ho : o = 128 ^ k) (hc : x < 256) (hl : L[k]? = some (UInt8.ofNat x)) (hb : ¬ (0 < k ∧ x ≤ 0)) (h1 : x < 128) (hk : 8 ≤ k) :
    (Value.tuple #[.int .i64 (wrap64 ((acc : Int) + wrap64 ((x : Int) % 128 * (o : Int)))), .int .i64 ((at_ : Int) + 8 + 1), .int .i64 0]) = numVal at_ (rdNum L) := by
  obtain rfl : k = 8 := by have := h.1; omega
  exact ref_ok_end h ho hc hl hb h1

end Go.Proofs.Ytilagblpamhmkaa
namespace Go.Proofs.Ytilagblpamhmkaa
open Go.RowKit
set_option linter.unusedVariables false

set_option maxHeartbeats 400000 in
set_option maxRecDepth 100000 in
theorem num_edge (A : Option Addr) (n c : Nat) (l : List UInt8) (w : World) (hs : SlB w A n l) (hc : n ≤ c) (hcap : n ≤ 140737488351232) :
    Calls Try.prog 93 #[.slice A n c, .int .i64 (n : Int)] w (NumAns w n (rdNum (l.drop n))) := by
  have hll := hs.len
  have e : rdNum (l.drop n) = .error 4 := by rw [List.drop_of_length_le (by omega)]; rfl
  rw [e]
  clear e
  by_cases hcn : c = n
  all_goals
    go_enter Try.func93, Try.ntmps93
    go_wp2
    go_step3
    go_wp2
    go_step3
    go_wp2
    go_loop [7, 23] (fun e i => e = .int .i64 4 ∧ i = .int .i64 0) (fun _ _ => 0)
    case atStart => exact ⟨rfl, rfl⟩
    case round =>
      obtain ⟨rfl, rfl⟩ := hrel
      go_wp2
      go_ret3
      exact ⟨rfl, rfl⟩

set_option maxHeartbeats 400000 in
set_option maxRecDepth 100000 in
theorem num_out (A : Option Addr) (n c : Nat) (a : Int) (w : World) (h : a < 0 ∨ (n : Int) < a) :
    Calls Try.prog 93 #[.slice A n c, .int .i64 a] w fun e w' => e = .returned (.tuple #[.int .i64 0, .int .i64 0, .int .i64 1]) ∧ w = w' := by
  by_cases h0 : a < 0
  · go_enter Try.func93, Try.ntmps93
    go_wp2
    go_step3
    go_wp2
    rw [Exit.noGoto_ret]
    go_ret3
    exact ⟨rfl, rfl⟩
  · have h1 : (n : Int) < a := by omega
    clear h
    go_enter Try.func93, Try.ntmps93
    go_wp2
    go_step3
    go_wp2
    rw [Exit.noGoto_ret]
    go_ret3
    exact ⟨rfl, rfl⟩

theorem num_any (A : Option Addr) (n c at_ : Nat) (l : List UInt8) (w : World) (hs : SlB w A n l) (hc : n ≤ c) (hcap : n ≤ 140737488351232) (hat : at_ ≤ n) :
    Calls Try.prog 93 #[.slice A n c, .int .i64 (at_ : Int)] w (NumAns w at_ (rdNum (l.drop at_))) := by
  rcases Nat.lt_or_ge at_ n with h | h
  · exact num_in A n c at_ l w hs hc hcap h
  · obtain rfl : at_ = n := by omega
    exact num_edge A at_ c l w hs hc hcap

theorem num_ok {A : Option Addr} {n c at_ : Nat} {l : List UInt8} {w : World} {m k : Nat} (hs : SlB w A n l) (hc : n ≤ c) (hcap : n ≤ 140737488351232) (hat : at_ ≤ n) (hr : rdNum (l.drop at_) = .ok (m, k)) :
    Calls Try.prog 93 #[.slice A n c, .int .i64 (at_ : Int)] w fun e w' => e = .returned (.tuple #[.int .i64 (m : Int), .int .i64 ((at_ : Int) + k), .int .i64 0]) ∧ w = w' := by
  have h := num_any A n c at_ l w hs hc hcap hat
  rw [hr] at h
  exact h
theorem num_err {A : Option Addr} {n c at_ : Nat} {l : List UInt8} {w : World} {x : Int} (hs : SlB w A n l) (hc : n ≤ c) (hcap : n ≤ 140737488351232) (hat : at_ ≤ n) (hr : rdNum (l.drop at_) = .error x) :
    Calls Try.prog 93 #[.slice A n c, .int .i64 (at_ : Int)] w fun e w' => e = .returned (.tuple #[.int .i64 0, .int .i64 0, .int .i64 x]) ∧ w = w' := by
  have h := num_any A n c at_ l w hs hc hcap hat
  rw [hr] at h
  exact h
end Go.Proofs.Ytilagblpamhmkaa
namespace Go.Proofs.Ytilagblpamhmkaa
open Go.RowKit
set_option linter.unusedVariables false
/-- append onto a row of the call's own, whatever slice is appended, as one step of a region that draws. -/
theorem step_append_sl {P : Program} {ops : Array Oper} {o : Oper} {a : Act} {w : World} {K : Act → World → Prop} {Q : Exit → Act → World → Prop} {E : Prop}
    (hg : o.guard = none) (s x : Operand) (t : TypeId) (hop : o.op = Op.call { callee := Callee.builtin Builtin.append, args := #[s, x], argTypes := #[t, t] })
    (base : Nat) (e : TypeId) (i : TypeInfo) (z : Value) (size bytes : Nat) (ht : P.underlying t = some (.slice e)) (hi : P.info? e = some i) (hz : i.zero = some z)
    (hsize : i.size = size) (hby : i.bytes = bytes) (hzs : z.cells.size = size) (hsz : 0 < size)
    (v : Value) (n : Nat) (xs : List Value) (hs : a.eval s = v) (hown : w.ownsRow base e size v n xs)
    (A : Option Addr) (m c : Nat) (news : List Value) (hx : a.eval x = .slice A m c) (hr : Sl w A m size news) (h1 : ∀ u ∈ news, u.oneCell' = true)
    (h63 : n + m ≤ maxLen) (hbytes : (n + m) * bytes ≤ 140737488355328) (hbase : base ≤ w.heap.size)
    (hK : ∀ v' w', w'.ownsRow base e size v' (n + m) (xs ++ news) → w.grownBy w' v.ownBlock → (v'.ownBlock = v.ownBlock ∨ v'.ownBlock = some w.heap.size) → K (a.put o.dst v') w') :
    if Region.wanted o (yielded ops a.tmps) = true then Oper.wp P o a w K Q else E := by
  have hw : Region.wanted o (yielded ops a.tmps) = true := by simp [Region.wanted, hg]
  rw [if_pos hw]
  obtain ⟨v', w', hr', h2, h3, h4⟩ := run_append_sl (P := P) w base t o.type e i z size bytes ht hi hz hsize hby hzs hsz v n xs hown A m c news hr h1 h63 hbytes hbase
  unfold Oper.wp execOp
  simp only [hop, resolve, invoke, builtin, Sem.run_bind, Sem.run_pure, Result.andThen_ok, List.map_toArray, List.map_cons, List.map_nil, hs, hx, hr']
  exact hK v' w' h2 h3 h4
end Go.Proofs.Ytilagblpamhmkaa
namespace Go.Proofs.Ytilagblpamhmkaa
open Go.RowKit
set_option linter.unusedVariables false

theorem Try.infoSpan : (Try.prog.info? 53).map (fun i => (i.zero, i.size, i.bytes)) = some (some (.agg #[.int .i64 0, .int .i64 0, .int .i64 0]), 3, 24) := by kernel_rfl

/-- What a call leaves that answers new spans. -/
def NewSpans (w : World) (l : List Sp) (e : Ending) (w' : World) : Prop :=
  ∃ A n c, e = .returned (.slice A n c) ∧ SlS w' A n l ∧ n ≤ c ∧ w'.ownsRow w.heap.size 53 3 (.slice A n c) n (spV l) ∧ Below w.heap.size w w'

theorem cell_three_new (w : World) (x y z : Value) (t : TypeId) : ∀ j u, [x, y, z][j]? = some u → (w.alloc (.cells #[x, y, z] t)).cell? ((⟨w.heap.size, 0, none⟩ : Addr).add j) = some u := by
  intro j u hj
  rw [add_plain', Nat.zero_add, cell_of_row _ w.heap.size j _ t (0, 0) (heap_alloc_new w _)]
  match j, hj with
  | 0, hj => simpa using hj
  | 1, hj => simpa using hj
  | 2, hj => simpa using hj

theorem cell_three_at (w : World) (x y z : Value) (t : TypeId) (g : Nat) (hg : w.heap.size = g) : ∀ j u, [x, y, z][j]? = some u → (w.alloc (.cells #[x, y, z] t)).cell? ((⟨g, 0, none⟩ : Addr).add j) = some u := by
  subst hg; exact cell_three_new w x y z t
theorem own_span {w : World} {base : Nat} {e : TypeId} {v : Value} {acc acc' : List Sp} {x y z : Int} {n : Nat} (h : w.ownsRow base e 3 v n (spV acc ++ [.int .i64 x, .int .i64 y, .int .i64 z])) (hn : n = acc.length + 1) (ha : acc' = acc ++ [(x, y, z)]) :
    w.ownsRow base e 3 v acc'.length (spV acc') := by
  subst hn ha
  rw [spV_append, List.length_append]
  exact h

def EqToS (a b : List Sp) (k : Nat) : Prop := a.take k = b.take k
theorem EqToS.step {a b : List Sp} {k : Nat} {x y : Sp} (h : EqToS a b k) (hx : a[k]? = some x) (hy : b[k]? = some y) (e : x = y) : EqToS a b (k + 1) := by
  unfold EqToS at *
  rw [List.take_add_one, List.take_add_one, hx, hy, h, e]
theorem EqToS.ne {a b : List Sp} {k : Nat} {x y : Sp} (hx : a[k]? = some x) (hy : b[k]? = some y) (e : ¬ x = y) : (a == b) = false := by
  rw [beq_eq_false_iff_ne]
  rintro rfl
  rw [hx] at hy
  injection hy with hy
  exact e hy
theorem EqToS.all {a b : List Sp} {n : Nat} (h : EqToS a b n) (ha : a.length = n) (hb : b.length = n) : (a == b) = true := by
  unfold EqToS at h
  rw [List.take_of_length_le (by omega), List.take_of_length_le (by omega)] at h
  rw [h]; simp

set_option maxHeartbeats 1000000 in
set_option maxRecDepth 100000 in
theorem sameS_any (A1 A2 : Option Addr) (n1 n2 c1 c2 : Nat) (l1 l2 : List Sp) (w : World) (h1 : SlS w A1 n1 l1) (h2 : SlS w A2 n2 l2) (hn : n1 ≤ 140737488351232) :
    Calls Try.prog 67 #[.slice A1 n1 c1, .slice A2 n2 c2] w fun e w' => e = .returned (.bool (l1 == l2)) ∧ ∃ k, w' = w.drewN k := by
  have e1 := h1.len
  have e2 := h2.len
  by_cases he : n1 = n2
  · subst he
    go_enter Try.func67, Try.ntmps67
    go_wp2
    go_loopw [5] (fun i wr => ∃ k : Nat, i = .int .i64 (k : Int) ∧ k ≤ n1 ∧ Hid (EqToS l1 l2 k) ∧ ∃ d, wr = w.drewN d) (fun i _ => n1 - (intOf i).toNat)
    case atStart => exact ⟨0, rfl, Nat.zero_le _, rfl, 0, rfl⟩
    case round =>
      obtain ⟨k, rfl, hk, Hok, d, rfl⟩ := hrel
      by_cases hlt : k < n1
      · obtain ⟨b, off, x, y, z, rfl, hx, hc0, hc1, hc2⟩ := h1.at_ hlt
        obtain ⟨b', off', x', y', z', rfl, hy, hd0, hd1, hd2⟩ := h2.at_ hlt
        have Hx := Lib.hid hx
        have Hy := Lib.hid hy
        clear hx hy
        have i0 : (0 : Int) ≤ (k : Int) := by omega
        have i1 : (k : Int) < (n1 : Int) := by omega
        by_cases hxx : x = x'
        · subst hxx
          by_cases hyy : y = y'
          · subst hyy
            by_cases hzz : z = z'
            · subst hzz
              go_wp2
              go_quiet (fail)
              go_wp2
              go_roundw
              case rel => exact ⟨k + 1, by go_num, by omega, Hok.out.step Hx.out Hy.out rfl, _, rfl⟩
              case measure => simp [intOf]; omega
            · have q : (z == z') = false := beq_eq_false_iff_ne.2 hzz
              have HN := Lib.hid (EqToS.ne Hx.out Hy.out (by simp [hzz]))
              clear hzz
              go_wp2
              go_quiet (fail)
              go_wp2
              go_ret
              exact ⟨retb HN.out, _, by rw [World.drewN_drewN]⟩
          · have q : (y == y') = false := beq_eq_false_iff_ne.2 hyy
            have HN := Lib.hid (EqToS.ne Hx.out Hy.out (by simp [hyy]))
            clear hyy
            go_wp2
            go_quiet (fail)
            go_wp2
            go_ret
            exact ⟨retb HN.out, _, by rw [World.drewN_drewN]⟩
        · have q : (x == x') = false := beq_eq_false_iff_ne.2 hxx
          have HN := Lib.hid (EqToS.ne Hx.out Hy.out (by simp [hxx]))
          clear hxx
          go_wp2
          go_quiet (fail)
          go_wp2
          go_ret
          exact ⟨retb HN.out, _, by rw [World.drewN_drewN]⟩
      · obtain rfl : k = n1 := by omega
        go_wp2
        go_ret
        exact ⟨retb (Hok.out.all e1 e2), d, rfl⟩
  · have HF := Lib.hid (show (l1 == l2) = false by rw [beq_eq_false_iff_ne]; rintro rfl; exact he (e1.symm.trans e2))
    have hb : ((n1 : Int) != (n2 : Int)) = true := by simp; omega
    go_enter Try.func67, Try.ntmps67
    go_wp2
    go_ret
    exact ⟨retb HF.out, 0, rfl⟩
end Go.Proofs.Ytilagblpamhmkaa
namespace Go.Proofs.Ytilagblpamhmkaa
open Go.RowKit
set_option linter.unusedVariables false

/-- Outside of fp nothing that was there has turned. -/
structure Fr (fp : Nat → Prop) (w w' : World) : Prop where
  os : w'.os = w.os
  tape : w'.tape = w.tape
  output : w'.output = w.output
  size : w.heap.size ≤ w'.heap.size
  block : ∀ k, k < w.heap.size → ¬ fp k → w'.heap[k]? = w.heap[k]?
section
variable {fp fp' : Nat → Prop} {w w' a b c : World}
theorem Fr.refl (fp : Nat → Prop) (w : World) : Fr fp w w := ⟨rfl, rfl, rfl, Nat.le_refl _, fun _ _ _ => rfl⟩
theorem Fr.trans (h : Fr fp a b) (k : Fr fp' b c) (hs : ∀ i, fp' i → fp i ∨ a.heap.size ≤ i) : Fr fp a c :=
  ⟨k.os.trans h.os, k.tape.trans h.tape, k.output.trans h.output, Nat.le_trans h.size k.size, fun i hi hn => (k.block i (Nat.lt_of_lt_of_le hi h.size) (fun hf => (hs i hf).elim hn (fun h => by omega))).trans (h.block i hi hn)⟩
theorem Fr.mono (h : Fr fp a b) (hs : ∀ i, fp i → fp' i ∨ a.heap.size ≤ i) : Fr fp' a b :=
  ⟨h.os, h.tape, h.output, h.size, fun i hi hn => h.block i hi (fun hf => (hs i hf).elim hn (fun h => by omega))⟩
theorem Fr.drew (h : Fr fp a b) : Fr fp a b.drew := ⟨h.os, h.tape, h.output, h.size, h.block⟩
theorem Fr.drewN (h : Fr fp a b) (k : Nat) : Fr fp a (b.drewN k) := ⟨h.os, h.tape, h.output, h.size, h.block⟩
theorem Fr.of_below (h : Below a.heap.size a b) : Fr fp a b := ⟨h.os, h.tape, h.output, h.size, fun i hi _ => h.block i hi⟩
theorem Fr.below {B : Nat} (h : Fr fp a b) (hf : ∀ i, fp i → B ≤ i) (hB : B ≤ a.heap.size) : Below B a b :=
  ⟨h.os, h.tape, h.output, h.size, fun i hi => h.block i (by omega) (fun hp => by have := hf i hp; omega)⟩
theorem Fr.of_grown {row : Option Nat} (h : a.grownBy b row) : Fr (fun i => some i = row) a b := ⟨h.os, h.tape, h.output, h.size, fun i hi hn => h.block i hi hn⟩
theorem Fr.set (w : World) (p : Addr) (u : Value) : Fr (fun i => i = p.block) w (w.setCell p u) := ⟨rfl, rfl, rfl, by simp, fun i _ hn => Below.heap_setCell w p u i hn⟩
theorem Fr.alloc (fp : Nat → Prop) (w : World) (o : Obj) : Fr fp w (w.alloc o) := ⟨rfl, rfl, rfl, by simp, fun i hi _ => Below.heap_alloc w o i hi⟩

/-- Each block of fp holds what it held. -/
def Kept (fp : Nat → Prop) (w w' : World) : Prop := ∀ b o, fp b → w.heap[b]? = some o → w'.heap[b]? = some o
theorem Fr.kept (h : Fr fp w w') (hd : ∀ i, fp' i → ¬ fp i) : Kept fp' w w' := fun b o hb ho => (h.block b (Array.getElem?_eq_some_iff.1 ho).1 (hd b hb)).trans ho
theorem Kept.below (h : Below w.heap.size w w') : Kept fp w w' := fun b o _ ho => (h.block b (Array.getElem?_eq_some_iff.1 ho).1).trans ho
theorem Kept.refl (fp : Nat → Prop) (w : World) : Kept fp w w := fun _ _ _ h => h
theorem Kept.trans (h : Kept fp a b) (k : Kept fp b c) : Kept fp a c := fun i o hi ho => k i o hi (h i o hi ho)
theorem Kept.mono (h : Kept fp a b) (hs : ∀ i, fp' i → fp i) : Kept fp' a b := fun i o hi ho => h i o (hs i hi) ho
theorem Kept.drew (fp : Nat → Prop) (w : World) : Kept fp w w.drew := fun _ _ _ h => h
theorem Kept.drewN (fp : Nat → Prop) (w : World) (k : Nat) : Kept fp w (w.drewN k) := fun _ _ _ h => h
theorem Kept.alloc (fp : Nat → Prop) (w : World) (o : Obj) : Kept fp w (w.alloc o) := fun b _ _ ho => (Below.heap_alloc w o b (Array.getElem?_eq_some_iff.1 ho).1).trans ho
theorem Kept.set {p : Addr} (u : Value) (hp : ¬ fp p.block) : Kept fp w (w.setCell p u) := fun b _ hb ho => (Below.heap_setCell w p u b (fun e => hp (e ▸ hb))).trans ho
theorem Kept.grown {row : Option Nat} (h : w.grownBy w' row) (hr : ∀ g, row = some g → ¬ fp g) : Kept fp w w' :=
  fun b _ hb ho => (h.block b (Array.getElem?_eq_some_iff.1 ho).1 (fun e => hr b e.symm hb)).trans ho
theorem Kept.cell (h : Kept fp w w') {p : Addr} {v : Value} (hp : fp p.block) (hc : w.cell? p = some v) : w'.cell? p = some v := by
  have hlt := World.block_lt_of_cell? w p hc
  have : w'.heap[p.block]? = w.heap[p.block]? := by
    have ho : w.heap[p.block]? = some w.heap[p.block] := Array.getElem?_eq_getElem hlt
    rw [h _ _ hp ho, ho]
  rw [World.cell?_of_block this]; exact hc

/-- Where a call's new state lies: where the old one lay, or in new blocks. -/
def Grow (w : World) (fp fp' : Nat → Prop) : Prop := ∀ i, fp' i → fp i ∨ w.heap.size ≤ i
theorem Grow.refl (w : World) (fp : Nat → Prop) : Grow w fp fp := fun _ h => .inl h

section
variable {base : Nat} {e : TypeId} {size : Nat} {v : Value} {n : Nat} {xs : List Value}
theorem own_keep (h : w.ownsRow base e size v n xs) (hf : ∀ g, v.ownBlock = some g → fp g) (hk : Kept fp w w') : w'.ownsRow base e size v n xs := by
  refine ⟨h.1, ?_⟩
  rcases h.2 with h2 | ⟨g, cap, cur, rfl, hb, hg, r⟩
  · exact .inl h2
  · exact .inr ⟨g, cap, cur, rfl, hb, hk g _ (hf g rfl) hg, r⟩
theorem own_base (h : w.ownsRow base e size v n xs) (b' : Nat) (hb : ∀ g, v.ownBlock = some g → b' ≤ g) : w.ownsRow b' e size v n xs := by
  refine ⟨h.1, ?_⟩
  rcases h.2 with h2 | ⟨g, cap, cur, rfl, _, r⟩
  · exact .inl h2
  · exact .inr ⟨g, cap, cur, rfl, hb g rfl, r⟩
theorem own_tag (h : w.ownsRow base e size v n xs) {g : Nat} (hg : v.ownBlock = some g) : ∃ cs, w.heap[g]? = some (.cells cs e (0, 0)) := by
  rcases h.2 with ⟨rfl, _⟩ | ⟨g', cap, cur, rfl, _, hgg, _⟩
  · cases hg
  · injection hg with hg
    subst hg
    exact ⟨cur, hgg⟩
end

/-- A slice that reads as a list, in a row of element type e that lies within fp (nothing is said of where, if it is empty). -/
def SlF (w : World) (fp : Nat → Prop) (e : TypeId) (A : Option Addr) (n sz : Nat) (xs : List Value) : Prop :=
  Sl w A n sz xs ∧ ∀ b off s, 0 < n * sz → A = some ⟨b, off, s⟩ → fp b ∧ ∃ cs, w.heap[b]? = some (.cells cs e (0, 0))
section
variable {e : TypeId} {A : Option Addr} {n sz : Nat} {xs : List Value}
theorem SlF.keep (h : SlF w fp e A n sz xs) (hk : ∀ b cs, fp b → w.heap[b]? = some (.cells cs e (0, 0)) → w'.heap[b]? = some (.cells cs e (0, 0))) : SlF w' fp e A n sz xs := by
  refine ⟨⟨h.1.1, fun hn => ?_⟩, fun b off s hn hA => ?_⟩
  · obtain ⟨b, off, rfl, hc⟩ := h.1.2 hn
    obtain ⟨hf, cs, hcs⟩ := h.2 b off none hn rfl
    refine ⟨b, off, rfl, fun j u hu => ?_⟩
    have h2 : w'.heap[b]? = w.heap[b]? := (hk b cs hf hcs).trans hcs.symm
    rw [World.cell?_of_block (w := w) (a := ⟨b, off + j, none⟩) h2]
    exact hc j u hu
  · obtain ⟨hf, cs, hcs⟩ := h.2 b off s hn hA
    exact ⟨hf, cs, hk b cs hf hcs⟩
theorem SlF.kept (h : SlF w fp e A n sz xs) (hk : Kept fp w w') : SlF w' fp e A n sz xs := h.keep fun b cs hb ho => hk b _ hb ho
theorem SlF.mono (h : SlF w fp e A n sz xs) (hs : ∀ i, i < w.heap.size → fp i → fp' i) : SlF w fp' e A n sz xs :=
  ⟨h.1, fun b off s hn hA => by obtain ⟨hf, cs, hcs⟩ := h.2 b off s hn hA; exact ⟨hs b (Array.getElem?_eq_some_iff.1 hcs).1 hf, cs, hcs⟩⟩
theorem SlF.nil (w : World) (fp : Nat → Prop) (e : TypeId) (A : Option Addr) (sz : Nat) : SlF w fp e A 0 sz [] := ⟨Sl.nil w A sz, fun _ _ _ h => absurd h (by simp)⟩
theorem SlF.of_own {base c : Nat} (h : w.ownsRow base e sz (.slice A n c) n xs) (hf : ∀ i, base ≤ i → i < w.heap.size → fp i) : SlF w fp e A n sz xs := by
  refine ⟨Sl.of_own h, fun b off s hn hA => ?_⟩
  subst hA
  have h1 := h.lt b rfl
  exact ⟨hf b h1.1 h1.2, own_tag h rfl⟩
end
theorem map_keep {H : Type} {P : Program} {k : TypeId} {R : Value → Option (DataW H × List MemPlace)} {b n : Nat} {D : DataW H} (h : w.ownsMap P k R b n D) (hf : fp b) (hk : Kept fp w w') : w'.ownsMap P k R b n D := by
  obtain ⟨es, clock, hb, r⟩ := h
  exact ⟨es, clock, hk b _ hf hb, r⟩
end
theorem Sl.keepB {w w' : World} {A : Option Addr} {n sz : Nat} {xs : List Value} (h : Sl w A n sz xs) (hk : ∀ b off, 0 < n * sz → A = some ⟨b, off, none⟩ → w'.heap[b]? = w.heap[b]?) : Sl w' A n sz xs :=
  ⟨h.1, fun hn => by
    obtain ⟨b, off, e, hc⟩ := h.2 hn
    refine ⟨b, off, e, fun j u hu => ?_⟩
    rw [World.cell?_of_block (w := w) (a := ⟨b, off + j, none⟩) (hk b off hn e)]
    exact hc j u hu⟩
theorem Sl.blk_lt {w : World} {A : Option Addr} {n sz : Nat} {xs : List Value} (h : Sl w A n sz xs) {b off : Nat} {s : Option Nat} (hn : 0 < n * sz) (e : A = some ⟨b, off, s⟩) : b < w.heap.size := by
  obtain ⟨b', off', e', hc⟩ := h.2 hn
  rw [e] at e'
  injection e' with e'
  injection e' with e1 e2 e3
  subst e1 e2 e3
  have hl := h.1
  have := hc 0 _ (List.getElem?_eq_getElem (by omega))
  exact World.block_lt_of_cell? w _ this
/-- A literal that was just laid. -/
theorem sl_lit (w : World) (cs : Array Value) (t : TypeId) (g m sz : Nat) (xs : List Value) (hg : g = w.heap.size) (hx : cs.toList = xs) (hl : xs.length = m * sz) : Sl (w.alloc (.cells cs t)) (some ⟨g, 0, none⟩) m sz xs := by
  subst hg hx
  refine ⟨hl, fun _ => ⟨w.heap.size, 0, rfl, fun j u hj => ?_⟩⟩
  rw [Nat.zero_add, cell_of_row _ w.heap.size j cs t (0, 0) (heap_alloc_new w _)]
  simpa using hj
/-- The bytes of a constant, behind their conversion. -/
theorem sl_const (w : World) (l : List UInt8) (cs : Array Value) (t : TypeId) (fr : Nat × Nat) (g n : Nat) (hg : g = w.heap.size) (hc : cs.toList = bsV l) (hn : n = l.length) : SlB (w.alloc (.cells cs t fr)) (some ⟨g, 0, none⟩) n l := by
  subst hg hn
  refine ⟨by rw [bsV_length]; omega, fun _ => ⟨w.heap.size, 0, rfl, fun j u hj => ?_⟩⟩
  rw [Nat.zero_add, World.cell?_alloc_mark w cs t fr j]
  rw [← hc] at hj
  simpa using hj
theorem lit_one {xs : List Value} (h : xs.all (·.oneCell') = true) : ∀ u ∈ xs, u.oneCell' = true := List.all_eq_true.1 h
end Go.Proofs.Ytilagblpamhmkaa
namespace Go.Proofs.Ytilagblpamhmkaa
open Go.RowKit

/-- A world that has grown out of W: what lay in W lies there. -/
structure Ext (W : World) where
  w : World
  below : Below W.heap.size W w
instance (W : World) : Nonempty (Ext W) := ⟨⟨W, Below.refl _ _⟩⟩

theorem Ext.cell {W : World} {p : Addr} {v : Value} (h : W.cell? p = some v) (x : Ext W) : x.w.cell? p = some v := (x.below.cell (World.block_lt_of_cell? W _ h)).trans h

theorem wp_region_ext {P : Program} {id : Nat} {Q : Exit → Act → World → Prop} {a : Act} {w : World} {l : List Oper} (hm : P.follows .mixedOrders = true) (hB : Region.lexB .any l.toArray = true)
    (h : wpQuiet P l.toArray (fun w' => ∃ x : Ext w, w' = x.w) (fun a' => ∀ w', (∃ x : Ext w, w' = x.w) → Q .normal a' w') l a) : (Code.region id l.toArray true).wp P Q a w :=
  wp_region_quiet (C := fun w' => ∃ x : Ext w, w' = x.w) hm hB ⟨⟨w.drew, (Below.refl _ _).drew⟩, rfl⟩ (by simpa using h)

theorem Calls.ext_of {P : Program} {f : FuncId} {args : Array Value} {W : World} {x : Ext W} {v : Value}
    (h : Calls P f args x.w fun e w' => e = .returned v ∧ Below x.w.heap.size x.w w') : Calls P f args x.w fun e w' => e = .returned v ∧ ∃ y : Ext W, w' = y.w :=
  h.mono fun _ w' ⟨he, hb⟩ => ⟨he, ⟨w', x.below.trans (hb.mono x.below.size)⟩, rfl⟩
theorem Calls.ext_same {P : Program} {f : FuncId} {args : Array Value} {W : World} {x : Ext W} {v : Value}
    (h : Calls P f args x.w fun e w' => e = .returned v ∧ w' = x.w) : Calls P f args x.w fun e w' => e = .returned v ∧ ∃ y : Ext W, w' = y.w :=
  h.mono fun _ _ ⟨he, hb⟩ => ⟨he, x, hb⟩
theorem Calls.ext_drewN {P : Program} {f : FuncId} {args : Array Value} {W : World} {x : Ext W} {v : Value}
    (h : Calls P f args x.w fun e w' => e = .returned v ∧ ∃ k, w' = x.w.drewN k) : Calls P f args x.w fun e w' => e = .returned v ∧ ∃ y : Ext W, w' = y.w :=
  h.mono fun _ _ ⟨he, k, hb⟩ => ⟨he, ⟨x.w.drewN k, below_drewN x.below k⟩, hb⟩
theorem ext_end {W w1 : World} (h : ∃ x : Ext W, w1 = x.w) : Below W.heap.size W w1 := by
  obtain ⟨x, rfl⟩ := h
  exact x.below
end Go.Proofs.Ytilagblpamhmkaa
namespace Go.Proofs.Ytilagblpamhmkaa
theorem dropAt {l : List Oper} {i : Nat} {o : Oper} {r : List Oper} (h : l.drop i = o :: r) : l.toArray[i]? = some o := by
  rw [List.getElem?_toArray, ← List.head?_drop, h]
  rfl
end Go.Proofs.Ytilagblpamhmkaa
namespace Go.Proofs.Ytilagblpamhmkaa
open Go.RowKit
set_option linter.unusedVariables false

theorem calls_swap {P : Program} {f : FuncId} {args : Array Value} {w : World} {v : Value} (h : Calls P f args w fun e w' => e = .returned v ∧ w = w') : Calls P f args w fun e w' => e = .returned v ∧ w' = w := h.mono fun _ _ q => ⟨q.1, q.2.symm⟩
/-- Where a reader stands. -/
structure RSt (w : World) (r : Nat) (A : Option Addr) (n c : Nat) (L : List UInt8) (a : Nat) : Prop where
  box : w.heap[r]? = some (.cells #[.slice A n c, .int .i64 (a : Int)] 126 (0, 0))
  sl : SlB w A n L
  far : ∀ b off s, 0 < n → A = some ⟨b, off, s⟩ → b ≠ r
  le : a ≤ n
  cap : n ≤ c
  size : n ≤ 140737488351232
/-- How a reader gives up. -/
def wrongE : Ending := .panicked [{ v := .iface 124 (.agg #[]), recovered := false }]
section
variable {w w1 : World} {r : Nat} {A : Option Addr} {n c : Nat} {L : List UInt8} {a : Nat}
theorem RSt.len (h : RSt w r A n c L a) : L.length = n := h.sl.len
theorem RSt.lt (h : RSt w r A n c L a) : r < w.heap.size := lt_of_block h.box
theorem RSt.c0 (h : RSt w r A n c L a) : w.cell? ⟨r, 0, none⟩ = some (.slice A n c) := by rw [cell_of_row w r 0 _ _ (0, 0) h.box]; rfl
theorem RSt.c1 (h : RSt w r A n c L a) : w.cell? ⟨r, 1, none⟩ = some (.int .i64 (a : Int)) := by rw [cell_of_row w r 1 _ _ (0, 0) h.box]; rfl
theorem RSt.fr (h : RSt w r A n c L a) (j : Nat) : w.frozen? ⟨r, j, none⟩ = false := frozen_of_row w r j _ _ h.box
theorem RSt.move (h : RSt w r A n c L a) (b : Below w.heap.size w w1) : RSt w1 r A n c L a :=
  ⟨(b.block r h.lt).trans h.box, Sl.below h.sl b, h.far, h.le, h.cap, h.size⟩
theorem RSt.drewN (h : RSt w r A n c L a) (k : Nat) : RSt (w.drewN k) r A n c L a := h.move (below_drewN (Below.refl _ _) k)
theorem RSt.set (h : RSt w r A n c L a) {b : Nat} (hb : b ≤ n) : RSt (w.setCell ⟨r, 1, none⟩ (.int .i64 (b : Int))) r A n c L b ∧ Fr (fun i => i = r) w (w.setCell ⟨r, 1, none⟩ (.int .i64 (b : Int))) := by
  refine ⟨⟨?_, ?_, h.far, hb, h.cap, h.size⟩, Fr.set w ⟨r, 1, none⟩ _⟩
  · rw [heap_setCell_same w r 1 _ _ _ h.box]; rfl
  · exact Sl.keepB h.sl fun b' off hn e => Below.heap_setCell w _ _ b' (h.far b' off none (by omega) e)
end

set_option maxHeartbeats 1000000 in
theorem rnum_yes {w : World} {r : Nat} {A : Option Addr} {n c : Nat} {L : List UInt8} {a m a1 : Nat} (h : RSt w r A n c L a) (hp : pNum L a = some (m, a1)) :
    Calls Try.prog 88 #[.pointer (some ⟨r, 0, none⟩)] w fun e w' => e = .returned (.int .i64 (m : Int)) ∧ RSt w' r A n c L a1 ∧ Fr (fun i => i = r) w w' := by
  obtain ⟨k, hr, rfl⟩ := pNum_some hp
  have hle := pNum_le hp
  have C := Lib.hid (fun z : Ext w => calls_swap (num_ok (h.move z.below).sl h.cap h.size h.le hr))
  have hl := h.len
  clear hr hp
  have C0 := Ext.cell h.c0
  have C1 := Ext.cell h.c1
  have H := Lib.hid h
  clear h
  go_enter Try.func88, Try.ntmps88
  go_wp2_with fail
  refine wp_region_ext (by kernel_rfl) (by kernel_rfl) ?_
  repeat (go_big_quiet_step ((go_at_call 93; exact Calls.ext_same (C.out _))))
  refine wpQuiet_nil ?_
  intro w1 hw1
  have b1 := ext_end hw1
  have H1 := Lib.hid (H.out.move b1)
  have f1 := H1.out.fr 1
  have c1 := H1.out.c1
  have HB := Lib.hid b1
  clear hw1 C0 C1 b1
  have HE := Lib.hid (H1.out.set (b := a + k) (by omega))
  go_wp2
  go_ret
  have e1 : ((a + k : Nat) : Int) = (a : Int) + (k : Int) := by omega
  have HE1 := HE.out
  rw [e1] at HE1
  exact ⟨rfl, HE1.1, (Fr.of_below HB.out).trans HE1.2 (fun _ h => .inl h)⟩
set_option maxHeartbeats 1000000 in
theorem rnum_no {w : World} {r : Nat} {A : Option Addr} {n c : Nat} {L : List UInt8} {a : Nat} (h : RSt w r A n c L a) (hp : pNum L a = none) :
    Calls Try.prog 88 #[.pointer (some ⟨r, 0, none⟩)] w fun e w' => e = wrongE ∧ Fr (fun i => i = r) w w' := by
  obtain ⟨x, hr⟩ := pNum_none hp
  have hx : x = 2 ∨ x = 4 := rdN_err _ _ _ _ hr
  have hx0 : (x == 0) = false := by rw [beq_eq_false_iff_ne]; omega
  have hx1 : (x != 0) = true := by rw [bne_iff_ne]; omega
  have C := Lib.hid (fun z : Ext w => calls_swap (num_err (h.move z.below).sl h.cap h.size h.le hr))
  clear hr hp hx
  have C0 := Ext.cell h.c0
  have C1 := Ext.cell h.c1
  have H := Lib.hid h
  clear h
  go_enter Try.func88, Try.ntmps88
  go_wp2_with fail
  refine wp_region_ext (by kernel_rfl) (by kernel_rfl) ?_
  repeat (go_big_quiet_step ((go_at_call 93; exact Calls.ext_same (C.out _))))
  refine wpQuiet_nil ?_
  intro w1 hw1
  have b1 := ext_end hw1
  have H1 := Lib.hid (H.out.move b1)
  have f1 := H1.out.fr 1
  have c1 := H1.out.c1
  have HB := Lib.hid b1
  clear hw1 C0 C1 b1
  go_wp2
  exact ⟨rfl, rfl, Fr.of_below HB.out⟩
set_option maxHeartbeats 1000000 in
theorem rint_yes {w : World} {r : Nat} {A : Option Addr} {n c : Nat} {L : List UInt8} {a m a1 : Nat} (h : RSt w r A n c L a) (hp : pNum L a = some (m, a1)) :
    Calls Try.prog 89 #[.pointer (some ⟨r, 0, none⟩)] w fun e w' => e = .returned (.int .i64 (m : Int)) ∧ RSt w' r A n c L a1 ∧ Fr (fun i => i = r) w w' := by
  have hm := (pNum_le hp).2.2.2
  have C := Lib.hid (rnum_yes h hp)
  clear h hp
  go_enter Try.func89, Try.ntmps89
  go_wp2_with fail
  refine C.out.mono ?_
  rintro e w1 ⟨rfl, h1, f1⟩
  have HK := Lib.hid (And.intro h1 f1)
  clear h1 f1 C
  go_wp2
  go_ret
  exact ⟨rfl, HK.out⟩
set_option maxHeartbeats 1000000 in
theorem rint_no {w : World} {r : Nat} {A : Option Addr} {n c : Nat} {L : List UInt8} {a : Nat} (h : RSt w r A n c L a) (hp : pNum L a = none) :
    Calls Try.prog 89 #[.pointer (some ⟨r, 0, none⟩)] w fun e w' => e = wrongE ∧ Fr (fun i => i = r) w w' := by
  have C := Lib.hid (rnum_no h hp)
  clear h hp
  go_enter Try.func89, Try.ntmps89
  go_wp2_with fail
  refine C.out.mono ?_
  rintro e w1 ⟨rfl, f1⟩
  exact ⟨rfl, rfl, f1⟩

def okP (f m : Nat) : Bool := decide ((f : Int) ≤ wrap64 ((f : Int) + (m : Int)))
theorem okP_small (f m : Nat) (h : f + m ≤ 4611686018427387904) : okP f m = true := by
  unfold okP wrap64
  rw [decide_eq_true_eq]
  omega
theorem box3_fr {w w' : World} {r b : Nat} {t : TypeId} {x y z : Int} (h : Fr (fun i => i = r) w w') (hb : Box3 w b t x y z) (hne : b ≠ r) : Box3 w' b t x y z := (h.block b hb.lt hne).trans hb
theorem box3_set1 {w : World} {b : Nat} {t : TypeId} {x y z : Int} (h : Box3 w b t x y z) (u : Int) : Box3 (w.setCell ⟨b, 1, none⟩ (.int .i64 u)) b t x u z := by
  unfold Box3; rw [heap_setCell_same w b 1 _ t _ h]; rfl
theorem box3_set2 {w : World} {b : Nat} {t : TypeId} {x y z : Int} (h : Box3 w b t x y z) (u : Int) : Box3 (w.setCell ⟨b, 2, none⟩ (.int .i64 u)) b t x y u := by
  unfold Box3; rw [heap_setCell_same w b 2 _ t _ h]; rfl
theorem RSt.setOther {w : World} {r : Nat} {A : Option Addr} {n c : Nat} {L : List UInt8} {a b j : Nat} (h : RSt w r A n c L a) (hb : b ≠ r) (hA : ∀ b' off s, 0 < n → A = some ⟨b', off, s⟩ → b' ≠ b) (u : Value) : RSt (w.setCell ⟨b, j, none⟩ u) r A n c L a :=
  ⟨(Below.heap_setCell w ⟨b, j, none⟩ u r (fun e => hb e.symm)).trans h.box, Sl.keepB h.sl fun b' off hn e => Below.heap_setCell w _ _ b' (hA b' off none (by omega) e), h.far, h.le, h.cap, h.size⟩
theorem RSt.blk {w : World} {r : Nat} {A : Option Addr} {n c : Nat} {L : List UInt8} {a : Nat} (h : RSt w r A n c L a) : ∀ b' off s, 0 < n → A = some ⟨b', off, s⟩ → b' < w.heap.size :=
  fun b' off s hn e => Sl.blk_lt h.sl (by omega) e
end Go.Proofs.Ytilagblpamhmkaa
namespace Go.Proofs.Ytilagblpamhmkaa
open Go.RowKit
set_option linter.unusedVariables false

def spA (x : Sp) : Value := .agg #[.int .i64 x.1, .int .i64 x.2.1, .int .i64 x.2.2]
def SpanAns (w : World) (r : Nat) (A : Option Addr) (n c : Nat) (L : List UInt8) (o : Option (Sp × Nat)) (e : Ending) (w' : World) : Prop :=
  match o with
  | some (x, a) => e = .returned (spA x) ∧ RSt w' r A n c L a ∧ Fr (fun i => i = r) w w'
  | none => e = wrongE ∧ Fr (fun i => i = r) w w'
theorem SpanAns.no {w : World} {r : Nat} {A : Option Addr} {n c : Nat} {L : List UInt8} {o : Option (Sp × Nat)} {w' : World} (ho : o = none) (h : Fr (fun i => i = r) w w') : SpanAns w r A n c L o wrongE w' := by rw [ho]; exact ⟨rfl, h⟩
theorem SpanAns.yes {w : World} {r : Nat} {A : Option Addr} {n c : Nat} {L : List UInt8} {o : Option (Sp × Nat)} {x : Sp} {a : Nat} {w' : World} (ho : o = some (x, a)) (h : RSt w' r A n c L a) (hf : Fr (fun i => i = r) w w') : SpanAns w r A n c L o (.returned (spA x)) w' := by rw [ho]; exact ⟨rfl, h, hf⟩
theorem gSpan_no1 {ok : Nat → Nat → Bool} {L : List UInt8} {a : Nat} (h : pNum L a = none) : gSpan ok L a = none := by unfold gSpan; simp only [h]
theorem gSpan_no2 {ok : Nat → Nat → Bool} {L : List UInt8} {a s a1 : Nat} (h : pNum L a = some (s, a1)) (h2 : pNum L a1 = none) : gSpan ok L a = none := by unfold gSpan; simp only [h, h2]
theorem gSpan_no3 {ok : Nat → Nat → Bool} {L : List UInt8} {a s a1 f a2 : Nat} (h : pNum L a = some (s, a1)) (h2 : pNum L a1 = some (f, a2)) (h3 : pNum L a2 = none) : gSpan ok L a = none := by unfold gSpan; simp only [h, h2, h3]
theorem gSpan_at {ok : Nat → Nat → Bool} {L : List UInt8} {a s a1 f a2 m a3 : Nat} (h : pNum L a = some (s, a1)) (h2 : pNum L a1 = some (f, a2)) (h3 : pNum L a2 = some (m, a3)) :
    gSpan ok L a = if ok f m = true then some (((s : Int), (f : Int), wrap64 ((f : Int) + (m : Int))), a3) else none := by unfold gSpan; simp only [h, h2, h3]
set_option maxHeartbeats 1000000 in
theorem rspan_any {w : World} {r : Nat} {A : Option Addr} {n c : Nat} {L : List UInt8} {a : Nat} (h : RSt w r A n c L a) :
    Calls Try.prog 91 #[.pointer (some ⟨r, 0, none⟩)] w (SpanAns w r A n c L (gSpan okP L a)) := by
  have bA : Below w.heap.size w (w.alloc (.cells #[.int .i64 0, .int .i64 0, .int .i64 0] 53)) := (Below.refl _ _).alloc (Nat.le_refl _) _
  have HA := Lib.hid (Fr.of_below bA (fp := fun i => i = r))
  have hrl := h.lt
  have HL := Lib.hid h.blk
  have X0 := Lib.hid (Box3.new w 53 0 0 0)
  cases h1 : pNum L a with
  | none =>
    have C1 := Lib.hid (rint_no (h.move bA) h1)
    have HN := Lib.hid (gSpan_no1 (ok := okP) h1)
    clear h h1 bA X0
    go_enter Try.func91, Try.ntmps91
    go_wp2_with fail
    refine C1.out.mono ?_
    rintro e w1 ⟨rfl, f1⟩
    exact ⟨rfl, SpanAns.no HN.out (HA.out.trans f1 fun _ h => .inl h)⟩
  | some p1 =>
    obtain ⟨s, a1⟩ := p1
    have C1 := Lib.hid (rint_yes (h.move bA) h1)
    have HP1 := Lib.hid h1
    clear h h1 bA
    go_enter Try.func91, Try.ntmps91
    go_wp2_with fail
    refine C1.out.mono ?_
    rintro e w1 ⟨rfl, h1, f1⟩
    have F1 := Lib.hid (HA.out.trans f1 fun _ h => .inl h)
    have X1 := Lib.hid (box3_fr f1 X0.out (by omega))
    have bB : Below w1.heap.size w1 (w1.alloc (.cells #[.int .i64 (s : Int), .int .i64 0, .int .i64 0] 53)) := (Below.refl _ _).alloc (Nat.le_refl _) _
    have l1 := X1.out.lt
    have r1 := h1.lt
    have FB := Lib.hid (F1.out.trans (Fr.of_below bB (fp := fun i => i = r)) fun _ h => .inl h)
    have Y1 := Lib.hid (Box3.new w1 53 (s : Int) 0 0)
    have X2 := Lib.hid (X1.out.below bB)
    have HR1 := Lib.hid (h1.move bB)
    have HB1 := Lib.hid h1.blk
    clear h1 f1 C1 X0 bB
    cases h2 : pNum L a1 with
    | none =>
      have C2 := Lib.hid (rnum_no HR1.out h2)
      have HN := Lib.hid (gSpan_no2 (ok := okP) HP1.out h2)
      clear h2
      go_wp2_with fail
      refine C2.out.mono ?_
      rintro e w2 ⟨rfl, f2⟩
      exact ⟨rfl, SpanAns.no HN.out (FB.out.trans f2 fun _ h => .inl h)⟩
    | some p2 =>
      obtain ⟨f, a2⟩ := p2
      have C2 := Lib.hid (rnum_yes HR1.out h2)
      have HP2 := Lib.hid h2
      have hf := (pNum_le h2).2.2.2
      clear h2
      go_wp2_with fail
      refine C2.out.mono ?_
      rintro e w2 ⟨rfl, h2, f2⟩
      have Y2 := box3_fr f2 Y1.out (by omega)
      have yf := Y2.fr 1
      have y1 := Y2.c1
      have HY := Lib.hid (box3_set1 Y2 (f : Int))
      have HX := Lib.hid (box3_fr f2 X2.out (by omega))
      have hsz2 : w1.heap.size < w2.heap.size := Y2.lt
      have HR2 := Lib.hid (h2.setOther (b := w1.heap.size) (j := 1) (by omega) (fun b' off s hn e => by have := HB1.out b' off s hn e; omega) (.int .i64 (f : Int)))
      have HF := Lib.hid ((FB.out.trans f2 fun _ h => .inl h).trans (Fr.set w2 ⟨w1.heap.size, 1, none⟩ (.int .i64 (f : Int))) fun i hi => .inr (by have := F1.out.size; have hi2 : i = w1.heap.size := hi; omega))
      clear h2 f2 C2 Y2 Y1 X2 HR1 FB
      go_wp2_with fail
      have HX := Lib.hid ((Below.heap_setCell w2 ⟨w1.heap.size, 1, none⟩ (.int .i64 (f : Int)) w.heap.size (by simp; omega)).trans HX.out)
      have hsz3 : w1.heap.size < (w2.setCell ⟨w1.heap.size, 1, none⟩ (.int .i64 (f : Int))).heap.size := HY.out.lt
      clear yf y1
      generalize w2.setCell ⟨w1.heap.size, 1, none⟩ (.int .i64 (f : Int)) = wc at *
      have hszw := F1.out.size
      cases h3 : pNum L a2 with
      | none =>
        have C3 := Lib.hid (rnum_no (HR2.out.move (Below.refl _ wc).drew) h3)
        have HN := Lib.hid (gSpan_no3 (ok := okP) HP1.out HP2.out h3)
        clear h3
        refine wp_region_held_drew (S := fun w' => w'.cell? ⟨w1.heap.size, 1, none⟩ = some (.int .i64 (f : Int))) (by kernel_rfl) ?_ (fun hHeld => ?_)
        · exact HY.out.c1
        first
          | (refine wpAnyH_take (i := 0) (oi := _) (v := undef) (dropAt rfl) (by kernel_rfl) (by kernel_rfl) (by kernel_rfl) (fun _ _ _ h => h) (Or.inr ⟨by rfl, rfl⟩) (by assumption) ?_)
          | (refine wpAnyH_take (i := 0) (oi := _) (v := ?_) (dropAt rfl) (by kernel_rfl) (by kernel_rfl) (by kernel_rfl) (fun _ _ _ h => h) (Or.inl ⟨by rfl, ?_⟩) (by assumption) ?_; rotate_left; (focus (intro w2 hSw; (try dsimp only at hSw); go_simp; try with_reducible rfl)))
          | fail
        try simp only [Act.put, List.setIfInBounds_toArray, List.set_cons_zero, List.set_cons_succ]
        first
          | (refine wpAnyH_take (i := 1) (oi := _) (v := undef) (dropAt rfl) (by kernel_rfl) (by kernel_rfl) (by kernel_rfl) (fun _ _ _ h => h) (Or.inr ⟨by rfl, rfl⟩) (by assumption) ?_)
          | (refine wpAnyH_take (i := 1) (oi := _) (v := ?_) (dropAt rfl) (by kernel_rfl) (by kernel_rfl) (by kernel_rfl) (fun _ _ _ h => h) (Or.inl ⟨by rfl, ?_⟩) (by assumption) ?_; rotate_left; (focus (intro w2 hSw; (try dsimp only at hSw); go_simp; try with_reducible rfl)))
          | fail
        try simp only [Act.put, List.setIfInBounds_toArray, List.set_cons_zero, List.set_cons_succ]
        first
          | (refine wpAnyH_take (i := 2) (oi := _) (v := undef) (dropAt rfl) (by kernel_rfl) (by kernel_rfl) (by kernel_rfl) (fun _ _ _ h => h) (Or.inr ⟨by rfl, rfl⟩) (by assumption) ?_)
          | (refine wpAnyH_take (i := 2) (oi := _) (v := ?_) (dropAt rfl) (by kernel_rfl) (by kernel_rfl) (by kernel_rfl) (fun _ _ _ h => h) (Or.inl ⟨by rfl, ?_⟩) (by assumption) ?_; rotate_left; (focus (intro w2 hSw; (try dsimp only at hSw); go_simp; try with_reducible rfl)))
          | fail
        try simp only [Act.put, List.setIfInBounds_toArray, List.set_cons_zero, List.set_cons_succ]
        refine wpAnyH_ready (rs := [3]) (by kernel_rfl) (by simp) ?_
        refine AllReadyH.cons (o := _) (dropAt rfl) (fun K hK => ?_) AllReadyH.nil
        go_simp
        go_at_call 88
        refine C3.out.mono ?_
        rintro e w3 ⟨rfl, f3⟩
        exact ⟨rfl, SpanAns.no HN.out ((HF.out.trans (Fr.of_below (Below.refl _ wc).drew (fp := fun _ => False)) (fun _ h => h.elim)).trans f3 fun _ h => .inl h)⟩
      | some p3 =>
        obtain ⟨m, a3⟩ := p3
        have C3 := Lib.hid (rnum_yes (HR2.out.move (Below.refl _ wc).drew) h3)
        have HN := Lib.hid (gSpan_at (ok := okP) HP1.out HP2.out h3)
        obtain ⟨t, ht⟩ : ∃ t, IntKind.i64.wrap ((f : Int) + (m : Int)) = t := ⟨_, rfl⟩
        have HT2 := Lib.hid (show wrap64 ((f : Int) + (m : Int)) = t from by rw [← ht]; simp [wrap64, IntKind.wrap_i64])
        clear h3
        refine wp_region_held_drew (S := fun w' => w'.cell? ⟨w1.heap.size, 1, none⟩ = some (.int .i64 (f : Int))) (by kernel_rfl) ?_ (fun hHeld => ?_)
        · exact HY.out.c1
        first
          | (refine wpAnyH_take (i := 0) (oi := _) (v := undef) (dropAt rfl) (by kernel_rfl) (by kernel_rfl) (by kernel_rfl) (fun _ _ _ h => h) (Or.inr ⟨by rfl, rfl⟩) (by assumption) ?_)
          | (refine wpAnyH_take (i := 0) (oi := _) (v := ?_) (dropAt rfl) (by kernel_rfl) (by kernel_rfl) (by kernel_rfl) (fun _ _ _ h => h) (Or.inl ⟨by rfl, ?_⟩) (by assumption) ?_; rotate_left; (focus (intro w2 hSw; (try dsimp only at hSw); go_simp; try with_reducible rfl)))
          | fail
        try simp only [Act.put, List.setIfInBounds_toArray, List.set_cons_zero, List.set_cons_succ]
        first
          | (refine wpAnyH_take (i := 1) (oi := _) (v := undef) (dropAt rfl) (by kernel_rfl) (by kernel_rfl) (by kernel_rfl) (fun _ _ _ h => h) (Or.inr ⟨by rfl, rfl⟩) (by assumption) ?_)
          | (refine wpAnyH_take (i := 1) (oi := _) (v := ?_) (dropAt rfl) (by kernel_rfl) (by kernel_rfl) (by kernel_rfl) (fun _ _ _ h => h) (Or.inl ⟨by rfl, ?_⟩) (by assumption) ?_; rotate_left; (focus (intro w2 hSw; (try dsimp only at hSw); go_simp; try with_reducible rfl)))
          | fail
        try simp only [Act.put, List.setIfInBounds_toArray, List.set_cons_zero, List.set_cons_succ]
        first
          | (refine wpAnyH_take (i := 2) (oi := _) (v := undef) (dropAt rfl) (by kernel_rfl) (by kernel_rfl) (by kernel_rfl) (fun _ _ _ h => h) (Or.inr ⟨by rfl, rfl⟩) (by assumption) ?_)
          | (refine wpAnyH_take (i := 2) (oi := _) (v := ?_) (dropAt rfl) (by kernel_rfl) (by kernel_rfl) (by kernel_rfl) (fun _ _ _ h => h) (Or.inl ⟨by rfl, ?_⟩) (by assumption) ?_; rotate_left; (focus (intro w2 hSw; (try dsimp only at hSw); go_simp; try with_reducible rfl)))
          | fail
        try simp only [Act.put, List.setIfInBounds_toArray, List.set_cons_zero, List.set_cons_succ]
        refine wpAnyH_ready (rs := [3]) (by kernel_rfl) (by simp) ?_
        refine AllReadyH.cons (o := _) (dropAt rfl) (fun K hK => ?_) AllReadyH.nil
        go_simp
        (go_at_call 88; refine C3.out.mono ?_; rintro e w3 ⟨rfl, h3, f3⟩)
        refine hK.out _ _ ?_ (fun hHeld => ?_)
        · exact (box3_fr f3 (HY.out.below (Below.refl _ wc).drew) (by omega)).c1
        clear hK K
        try simp only [Act.put, List.setIfInBounds_toArray, List.set_cons_zero, List.set_cons_succ]
        have f3' := (Fr.of_below (Below.refl _ wc).drew (fp := fun i => i = r)).trans f3 fun _ h => .inl h
        have Z := box3_fr f3' HY.out (by omega)
        have z1 := Z.c2
        have z2 := Z.fr 2
        first
          | (refine wpAnyH_take (i := 4) (oi := _) (v := undef) (dropAt rfl) (by kernel_rfl) (by kernel_rfl) (by kernel_rfl) (fun _ _ _ h => h) (Or.inr ⟨by rfl, rfl⟩) (by assumption) ?_)
          | (refine wpAnyH_take (i := 4) (oi := _) (v := ?_) (dropAt rfl) (by kernel_rfl) (by kernel_rfl) (by kernel_rfl) (fun _ _ _ h => h) (Or.inl ⟨by rfl, ?_⟩) (by assumption) ?_; rotate_left; (focus (intro w2 hSw; (try dsimp only at hSw); go_simp; try with_reducible rfl)))
          | fail
        try simp only [Act.put, List.setIfInBounds_toArray, List.set_cons_zero, List.set_cons_succ]
        first
          | (refine wpAnyH_take (i := 5) (oi := _) (v := undef) (dropAt rfl) (by kernel_rfl) (by kernel_rfl) (by kernel_rfl) (fun _ _ _ h => h) (Or.inr ⟨by rfl, rfl⟩) (by assumption) ?_)
          | (refine wpAnyH_take (i := 5) (oi := _) (v := ?_) (dropAt rfl) (by kernel_rfl) (by kernel_rfl) (by kernel_rfl) (fun _ _ _ h => h) (Or.inl ⟨by rfl, ?_⟩) (by assumption) ?_; rotate_left; (focus (intro w2 hSw; (try dsimp only at hSw); go_simp; try with_reducible rfl)))
          | fail
        try simp only [Act.put, List.setIfInBounds_toArray, List.set_cons_zero, List.set_cons_succ]
        have HX3 := box3_fr f3' HX.out (by omega)
        have X4 : Box3 (w3.setCell ⟨w1.heap.size, 2, none⟩ (.int .i64 t)) w.heap.size 53 0 0 0 := (Below.heap_setCell w3 ⟨w1.heap.size, 2, none⟩ (.int .i64 t) w.heap.size (by show w.heap.size ≠ w1.heap.size; omega)).trans HX3
        have Z4 := box3_set2 Z t
        have R4 := h3.setOther (b := w1.heap.size) (j := 2) (by omega) (fun b' off s hn e => by have := HB1.out b' off s hn e; omega) (.int .i64 t)
        have F4 := (HF.out.trans f3' fun _ h => .inl h).trans (Fr.set w3 ⟨w1.heap.size, 2, none⟩ (.int .i64 t)) fun i hi => .inr (by have hi2 : i = w1.heap.size := hi; omega)
        have HZ4 := Lib.hid Z4
        have HK := Lib.hid (And.intro X4 (And.intro R4 F4))
        clear HX3 X4 Z4 R4 F4 f3 f3' h3 Z
        refine wpAnyH_ready (rs := [6]) (by kernel_rfl) (by simp) ?_
        refine AllReadyH.cons (o := _) (dropAt rfl) (fun K hK => ?_) AllReadyH.nil
        go_simp
        refine hK.out _ _ ?_ (fun hHeld => ?_)
        · exact HZ4.out.c1
        clear hK K
        try simp only [Act.put, List.setIfInBounds_toArray, List.set_cons_zero, List.set_cons_succ]
        refine wpAnyH_done (by kernel_rfl) ?_ _
        clear hHeld z1 z2
        generalize w3.setCell ⟨w1.heap.size, 2, none⟩ (.int .i64 t) = wd at *
        have d0 := HZ4.out.c0
        have d1 := HZ4.out.c1
        have d2 := HZ4.out.c2
        have e0 := HK.out.1.c0
        have e1 := HK.out.1.c1
        have e2 := HK.out.1.c2
        have k0 := HK.out.1.fr 0
        have k1 := HK.out.1.fr 1
        have k2 := HK.out.1.fr 2
        clear ht
        by_cases hlt : t < (f : Int)
        · go_wp2
          exact ⟨rfl, SpanAns.no (by rw [HN.out, if_neg]; unfold okP; rw [decide_eq_true_eq, HT2.out]; omega) HK.out.2.2⟩
        · go_wp2
          have X5 := HK.out.1.set3 (s : Int) (f : Int) t
          have q0 := X5.c0
          have q1 := X5.c1
          have q2 := X5.c2
          have HE := Lib.hid (show gSpan okP L a = some (((s : Int), (f : Int), t), a3) from by rw [HN.out, HT2.out, if_pos]; unfold okP; rw [decide_eq_true_eq, HT2.out]; omega)
          have lb := HB1.out
          have R5 := ((HK.out.2.1.setOther (b := w.heap.size) (j := 0) (by omega) (fun b' off s hn e => by have := HL.out b' off s hn e; omega) (.int .i64 (s : Int))).setOther (b := w.heap.size) (j := 1) (by omega) (fun b' off s hn e => by have := HL.out b' off s hn e; omega) (.int .i64 (f : Int))).setOther (b := w.heap.size) (j := 2) (by omega) (fun b' off s hn e => by have := HL.out b' off s hn e; omega) (.int .i64 t)
          have F5 := ((HK.out.2.2.trans (Fr.set wd ⟨w.heap.size, 0, none⟩ (.int .i64 (s : Int))) fun i hi => .inr (by have hi2 : i = w.heap.size := hi; omega)).trans (Fr.set _ ⟨w.heap.size, 1, none⟩ (.int .i64 (f : Int))) fun i hi => .inr (by have hi2 : i = w.heap.size := hi; omega)).trans (Fr.set _ ⟨w.heap.size, 2, none⟩ (.int .i64 t)) fun i hi => .inr (by have hi2 : i = w.heap.size := hi; omega)
          exact bodyPost_ret (v := spA ((s : Int), (f : Int), t)) (by simp [results, Try.results91, go_sem, q0, q1, q2, spA]) rfl (SpanAns.yes HE.out R5 F5)
end Go.Proofs.Ytilagblpamhmkaa
namespace Go.Proofs.Ytilagblpamhmkaa
open Go.RowKit
set_option linter.unusedVariables false

theorem RSt.moveB {w1 w2 : World} {r : Nat} {A : Option Addr} {n c : Nat} {L : List UInt8} {a : Nat} (h : RSt w1 r A n c L a) {B : Nat} (hr : r < B) (hA : ∀ b' off s, 0 < n → A = some ⟨b', off, s⟩ → b' < B) (b : Below B w1 w2) : RSt w2 r A n c L a :=
  ⟨(b.block r hr).trans h.box, Sl.keepB h.sl fun b' off hn e => b.block b' (hA b' off none (by omega) e), h.far, h.le, h.cap, h.size⟩
/-- A row of the call's own stays behind a reading. -/
theorem own_fr {w w1 w2 : World} {r : Nat} {e : TypeId} {sz : Nat} {v : Value} {n : Nat} {xs : List Value} (h : w1.ownsRow w.heap.size e sz v n xs) (hr : r < w.heap.size) (f : Fr (fun i => i = r) w1 w2) : w2.ownsRow w.heap.size e sz v n xs :=
  own_keep (fp := fun i => w.heap.size ≤ i) h (fun g hg => (h.lt g hg).1) (f.kept fun i hi e => by have hi2 : w.heap.size ≤ i := hi; omega)
theorem fr_grown {w w1 w2 : World} {r : Nat} {e : TypeId} {sz : Nat} {v : Value} {n : Nat} {xs : List Value} (f : Fr (fun i => i = r) w w1) (h : w1.ownsRow w.heap.size e sz v n xs) (g : w1.grownBy w2 v.ownBlock) : Fr (fun i => i = r) w w2 :=
  f.trans (Fr.of_grown g) fun i hi => .inr (h.lt i hi.symm).1
/-- What a reader of a list answers; R: what its value is. -/
def ListAns {α : Type} (R : World → List α → Value → Prop) (w : World) (r : Nat) (A : Option Addr) (n c : Nat) (L : List UInt8) (o : Option (List α × Nat)) (e : Ending) (w' : World) : Prop :=
  match o with
  | some (xs, a) => ∃ v, e = .returned v ∧ R w' xs v ∧ RSt w' r A n c L a ∧ Fr (fun i => i = r) w w'
  | none => e = wrongE ∧ Fr (fun i => i = r) w w'
section
variable {α : Type} {R : World → List α → Value → Prop} {w : World} {r : Nat} {A : Option Addr} {n c : Nat} {L : List UInt8} {o : Option (List α × Nat)} {w' : World}
theorem ListAns.no (ho : o = none) (h : Fr (fun i => i = r) w w') : ListAns R w r A n c L o wrongE w' := by rw [ho]; exact ⟨rfl, h⟩
theorem ListAns.yes {xs : List α} {a : Nat} {v : Value} (ho : o = some (xs, a)) (hv : R w' xs v) (h : RSt w' r A n c L a) (hf : Fr (fun i => i = r) w w') : ListAns R w r A n c L o (.returned v) w' := by rw [ho]; exact ⟨v, rfl, hv, h, hf⟩
end
/-- Spans in a row from a block on. -/
def OwnS (B : Nat) (w : World) (xs : List Sp) (v : Value) : Prop := w.ownsRow B 53 3 v xs.length (spV xs)
set_option maxHeartbeats 2000000 in
set_option maxRecDepth 100000 in
theorem take_spans {w : World} {r : Nat} {A : Option Addr} {n c : Nat} {L : List UInt8} {a : Nat} (h : RSt w r A n c L a) (h9 : n ≤ 4000000000000) :
    Calls Try.prog 90 #[.pointer (some ⟨r, 0, none⟩), .func (.func 91) #[.pointer (some ⟨r, 0, none⟩)] #[]] w (ListAns (OwnS w.heap.size) w r A n c L (pTake (gSpan okP) L a)) := by
  obtain ⟨i0, hi, hz0, hz1, hz2⟩ := info_parts Try.infoSpan
  cases h1 : pNum L a with
  | none =>
    have C1 := Lib.hid (rnum_no h h1)
    have HN := Lib.hid (pTake_no (p := gSpan okP) h1)
    clear h h1
    go_enter Try.func90, Try.ntmps90
    go_wp2_with fail
    refine C1.out.mono ?_
    rintro e w1 ⟨rfl, f1⟩
    exact ⟨rfl, ListAns.no HN.out f1⟩
  | some p1 =>
    obtain ⟨m, a1⟩ := p1
    by_cases hmany : n - a1 < m
    · have HN := Lib.hid (pTake_many (p := gSpan okP) h1 (by rw [h.len]; exact hmany))
      have C1 := Lib.hid (rnum_yes h h1)
      have HM := Lib.hid h1
      have hm := pNum_le h1
      have hn := h.size
      have hl := h.len
      have hcap := h.cap
      have HB := Lib.hid h.blk
      have hrl := h.lt
      clear h h1
      go_enter Try.func90, Try.ntmps90
      go_wp2_with fail
      refine C1.out.mono ?_
      rintro e w1 ⟨rfl, h1, f1⟩
      have H1 := Lib.hid h1
      have F1 := Lib.hid f1
      have X0 := Ext.cell h1.c0
      have X1 := Ext.cell h1.c1
      have hlc : (0 : Int) ≤ (n : Int) - (a1 : Int) := by omega
      have hws : IntKind.i64.wrap ((n : Int) - (a1 : Int)) = (n : Int) - (a1 : Int) := IntWalk.i64_in _ (by omega)
      clear h1 f1 C1
      have hq : decide ((m : Int) > (n : Int) - (a1 : Int)) = true := decide_eq_true (by omega)
      go_wp2_with fail
      refine wp_region_ext (by kernel_rfl) (by kernel_rfl) ?_
      repeat (go_big_quiet_step (fail))
      refine wpQuiet_nil ?_
      intro w2 hw2
      have b2 := ext_end hw2
      have H2 := Lib.hid (H1.out.move b2)
      have F2 := Lib.hid (F1.out.trans (Fr.of_below b2 (fp := fun i => i = r)) fun _ h => .inl h)
      clear hw2 X0 X1 b2 hws hlc H1 F1
      go_wp2
      exact ⟨rfl, ListAns.no HN.out F2.out⟩
    · have HT := Lib.hid (pTake_eq (p := gSpan okP) h1 (by rw [h.len]; omega))
      have C1 := Lib.hid (rnum_yes h h1)
      have HM := Lib.hid h1
      have hm := pNum_le h1
      have hn := h.size
      have hl := h.len
      have hcap := h.cap
      have HB := Lib.hid h.blk
      have hrl := h.lt
      clear h h1
      go_enter Try.func90, Try.ntmps90
      go_wp2_with fail
      refine C1.out.mono ?_
      rintro e w1 ⟨rfl, h1, f1⟩
      have H1 := Lib.hid h1
      have F1 := Lib.hid f1
      have X0 := Ext.cell h1.c0
      have X1 := Ext.cell h1.c1
      have hlc : (0 : Int) ≤ (n : Int) - (a1 : Int) := by omega
      have hws : IntKind.i64.wrap ((n : Int) - (a1 : Int)) = (n : Int) - (a1 : Int) := IntWalk.i64_in _ (by omega)
      clear h1 f1 C1
      have hq : decide ((m : Int) > (n : Int) - (a1 : Int)) = false := decide_eq_false (by omega)
      go_wp2_with fail
      refine wp_region_ext (by kernel_rfl) (by kernel_rfl) ?_
      repeat (go_big_quiet_step (fail))
      refine wpQuiet_nil ?_
      intro w2 hw2
      have b2 := ext_end hw2
      have H2 := Lib.hid (H1.out.move b2)
      have F2 := Lib.hid (F1.out.trans (Fr.of_below b2 (fp := fun i => i = r)) fun _ h => .inl h)
      clear hw2 X0 X1 b2 hws hlc H1 F1
      clear hq
      go_wp2
      go_loopw [6, 24] (fun v i wr => ∃ (k a2 : Nat) (xs : List Sp), i = .int .i64 (k : Int) ∧ k ≤ m ∧ Hid (pRep (gSpan okP) L k a1 = some (xs, a2)) ∧ Hid (wr.ownsRow w.heap.size 53 3 v k (spV xs)) ∧ Hid (RSt wr r A n c L a2) ∧ Hid (Fr (fun i => i = r) w wr)) (fun _ i _ => m - (intOf i).toNat)
      case atStart => exact ⟨0, a1, [], rfl, Nat.zero_le _, rfl, World.ownsRow_nil _ _ _ _, H2, F2⟩
      case round =>
        obtain ⟨k, a2, xs, rfl, hk, HP, HO, HR, HF⟩ := hrel
        by_cases hlt : k < m
        · cases h3 : gSpan okP L a2 with
          | none =>
            have C3 := Lib.hid (show Calls _ _ _ wr (SpanAns wr r A n c L none) from by rw [← h3]; exact rspan_any HR.out)
            have HN := Lib.hid (HT.out.trans (pRep_stop HP.out h3 hlt))
            clear h3
            go_wp2_with fail
            refine C3.out.mono ?_
            rintro e w3 ⟨rfl, f3⟩
            exact ⟨rfl, ListAns.no HN.out (HF.out.trans f3 fun _ h => .inl h)⟩
          | some p3 =>
            obtain ⟨x, a3⟩ := p3
            have C3 := Lib.hid (show Calls _ _ _ wr (SpanAns wr r A n c L (some (x, a3))) from by rw [← h3]; exact rspan_any HR.out)
            have HS := Lib.hid (pRep_step HP.out h3)
            clear h3
            obtain ⟨x0, x1, x2⟩ := x
            go_wp2_with (first
              | (go_at_call 91; refine C3.out.mono ?_; rintro e w3 ⟨rfl, h3, f3⟩; have F3 := HF.out.trans f3 fun _ h => .inl h; have hs3 := F3.size; have HX := Lib.hid (And.intro h3 (And.intro F3 (own_fr HO.out hrl f3))); clear h3 f3 F3; unfold spA)
              | (at_builtin; refine wpList_append_sl _ rfl (.tmp 26) (.tmp 29) 40 rfl (w.heap.size) 53 i0 (.agg #[.int .i64 0, .int .i64 0, .int .i64 0]) 3 24 Try.underlying40 hi hz0 hz1 hz2 rfl (by decide) (_) (k) (spV xs) rfl ((HX.out.2.2.alloc _)) (some ⟨w3.heap.size, 0, none⟩) (1) (1) ([.int .i64 x0, .int .i64 x1, .int .i64 x2]) rfl (sl_lit _ _ _ _ 1 3 _ rfl rfl rfl) ((spV_one [(x0, x1, x2)])) (by unfold maxLen; omega) (by omega) (by simp; omega) ?_)
              | fail)
            intro v4 w4 own4 g4 _
            have hG := HX.out.2.2.alloc (.cells #[.int .i64 x0, .int .i64 x1, .int .i64 x2] 53)
            have b4 : Below w.heap.size w3 w4 := ((Below.refl _ w3).alloc hs3 _).grown g4 (by simp; omega) (fun q hq => (hG.lt q hq).1)
            have HF4 := Lib.hid (fr_grown (HX.out.2.1.trans (Fr.alloc (fun i => i = r) w3 _) fun _ h => .inl h) hG g4)
            have HR4 := Lib.hid (HX.out.1.moveB hrl HB.out b4)
            have HO4 := Lib.hid (show w4.ownsRow w.heap.size 53 3 v4 (k + 1) (spV (xs ++ [(x0, x1, x2)])) from by rw [spV_append]; exact own4)
            clear own4 g4 hG b4
            go_wp2
            go_roundw
            case rel => exact ⟨k + 1, a3, _, by go_num, by omega, HS, HO4, HR4, HF4⟩
            case measure => simp [intOf]; omega
        · obtain rfl : k = m := by omega
          go_wp2
          go_ret
          exact ListAns.yes (HT.out.trans HP.out) (by have := HO.out; rw [← pRep_len _ HP.out] at this; exact this) HR.out HF.out
end Go.Proofs.Ytilagblpamhmkaa
