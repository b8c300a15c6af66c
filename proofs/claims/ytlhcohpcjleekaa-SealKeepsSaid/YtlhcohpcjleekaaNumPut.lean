/-
  num.PutNum and firthref01.PutNum write the number's bytes, in new memory.
-/
import Derived.Test.YtlhcohpcjleekaaNumPlain
import Derived.Test.YtlhcohpcjleekaaProg
import Derived.Laws.BitsAllLaws
namespace Go.Proofs.Ytlhcohpcjleekaa
open Go.RowKit

theorem Try.infoU8 : (Try.prog.info? 5).map (fun i => (i.zero, i.size, i.bytes)) = some (some (.int .u8 0), 1, 1) := by kernel_rfl

/-- What a call leaves that answers new bytes. -/
def NewBytes (w : World) (l : List UInt8) (e : Ending) (w' : World) : Prop :=
  ∃ v, e = .returned v ∧ w'.ownsRow w.heap.size 5 1 v l.length (bsV l) ∧ Below w.heap.size w w'

theorem NewBytes.read {w w' : World} {l : List UInt8} {e : Ending} (h : NewBytes w l e w') :
    ∃ A n c, e = .returned (.slice A n c) ∧ SlB w' A n l ∧ n ≤ c ∧ c ≤ maxLen ∧ Below w.heap.size w w' ∧ w'.ownsRow w.heap.size 5 1 (.slice A n c) n (bsV l) := by
  obtain ⟨v, rfl, hown, hbel⟩ := h
  obtain ⟨A, c, rfl, h1, h2⟩ := own_slice hown
  exact ⟨A, l.length, c, rfl, Sl.of_own hown, h1, h2, hbel, hown⟩

theorem byte_or (m : Nat) : (Value.int .u8 (bits .or .u8 ((m : Int) % 256) 128)) = bV (UInt8.ofNat (m % 128 + 128)) := by
  rw [u8_or _ _ (by omega) (by omega) (by omega) (by omega)]
  have e : ((m : Int) % 256).toNat = m % 256 := by omega
  rw [e]
  have h2 := or_128 (m % 256) (by omega)
  simp only [bV, UInt8.toNat_ofNat']
  congr 1
  rw [show ((128 : Int).toNat) = 128 from rfl, h2]
  omega
theorem byte_low (m : Nat) (h : m ≤ 127) : (Value.int .u8 (m : Int)) = bV (UInt8.ofNat m) := by
  simp only [bV, UInt8.toNat_ofNat']
  congr 1
  omega

set_option maxHeartbeats 400000 in
theorem putNum_any (n : Int) (w : World) (hn : n ≤ 9223372036854775807) :
    Calls Try.prog 20 #[.int .i64 n] w (NewBytes w (putNum n)) := by
  obtain ⟨i0, hi, hz0, hz1, hz2⟩ := info_parts Try.infoU8
  have Hst := Lib.hid (PutInv.start (N := n.toNat) (by omega))
  by_cases h0 : 0 ≤ n
  all_goals
    have hmax := Lib.hid (show max n 0 = (n.toNat : Int) by omega)
    go_enter Try.func20, Try.ntmps20
    go_wp2
    go_loopw [3, 4] (fun b u wr => ∃ (m : Nat) (acc : List UInt8), u = .int .u64 (m : Int) ∧ Hid (PutInv n.toNat acc m) ∧ acc.length ≤ 8 ∧ wr.ownsRow w.heap.size 5 1 b acc.length (bsV acc) ∧ Below w.heap.size w wr)
      (fun _ u _ => (intOf u).toNat)
    case atStart => exact ⟨n.toNat, [], (by congr 1; omega), Hst, by simp, World.ownsRow_nil _ _ _ _, Below.refl _ _⟩
    case round =>
      obtain ⟨m, acc, rfl, Hinv, hlen, hown, hbel⟩ := hrel
      have hsz := hbel.size
      by_cases hlt : 127 < m
      · go_wp2_with (at_builtin; refine wpList_append_own _ rfl _ _ 25 rfl (w.heap.size) 5 i0 (.int .u8 0) 1 1 Try.underlying25 hi hz0 hz1 hz2 rfl (by decide) _ _ _ rfl (World.ownsRow.alloc hown _) ⟨(wr).heap.size, 0, none⟩ 1 1 _ rfl rfl (cell_one_new _ _ _) (by intro u hu; simp at hu; subst hu; rfl) (by unfold maxLen; omega) (by omega) (by simp; omega) ?_)
        intro v' w1 hown' hgrow _
        have R1 := own_byte hown' rfl (byte_or m)
        have R2 := below_push hbel hown hgrow hsz (Nat.le_refl _)
        clear hown' hgrow hown hbel
        go_wp2
        go_roundw
        case rel => exact ⟨m / 128, _, by go_num, Hinv.out.step (by omega), (Hinv.out.step (by omega)).len, R1, R2⟩
        case measure => simp [intOf]; omega
      · go_wp2_with (at_builtin; refine wpList_append_own _ rfl _ _ 25 rfl (w.heap.size) 5 i0 (.int .u8 0) 1 1 Try.underlying25 hi hz0 hz1 hz2 rfl (by decide) _ _ _ rfl (World.ownsRow.alloc hown _) ⟨(wr).heap.size, 0, none⟩ 1 1 _ rfl rfl (cell_one_new _ _ _) (by intro u hu; simp at hu; subst hu; rfl) (by unfold maxLen; omega) (by omega) (by simp; omega) ?_)
        intro v' w1 hown' hgrow _
        have R1 := own_byte hown' rfl (byte_low m (by omega))
        have R2 := below_push hbel hown hgrow hsz (Nat.le_refl _)
        clear hown' hgrow hown hbel
        go_wp2
        go_ret
        refine ⟨v', rfl, ?_, R2⟩
        have e := Hinv.out.stop (show m < 128 by omega)
        rw [e] at R1
        exact R1

theorem byte_high (m : Nat) : (Value.int .u8 ((m : Int) % 128 + 128)) = bV (UInt8.ofNat (m % 128 + 128)) := by
  simp only [bV, UInt8.toNat_ofNat']
  congr 1
  omega

set_option maxHeartbeats 400000 in
set_option maxRecDepth 100000 in
theorem refPutNum_any (n : Int) (w : World) (hn : n ≤ 9223372036854775807) :
    Calls Try.prog 22 #[.int .i64 n] w (NewBytes w (putNum n)) := by
  obtain ⟨i0, hi, hz0, hz1, hz2⟩ := info_parts Try.infoU8
  have Hst := Lib.hid (PutInv.start (N := n.toNat) (by omega))
  go_enter Try.func22, Try.ntmps22
  by_cases h0 : n < 0
  all_goals
    go_wp2
    go_loopw [0, 3] (fun u b wr => ∃ (m : Nat) (acc : List UInt8), u = .int .i64 (m : Int) ∧ m ≤ n.toNat ∧ Hid (PutInv n.toNat acc m) ∧ acc.length ≤ 8 ∧ wr.ownsRow w.heap.size 5 1 b acc.length (bsV acc) ∧ Below w.heap.size w wr)
      (fun u _ _ => (intOf u).toNat)
    case atStart => exact ⟨n.toNat, [], (by congr 1; omega), Nat.le_refl _, Hst, by simp, World.ownsRow_nil _ _ _ _, Below.refl _ _⟩
    case round =>
      obtain ⟨m, acc, rfl, hmn, Hinv, hlen, hown, hbel⟩ := hrel
      have hsz := hbel.size
      clear h0
      by_cases hlt : 127 < m
      · go_wp2_with (at_builtin; refine wpList_append_own _ rfl _ _ 25 rfl (w.heap.size) 5 i0 (.int .u8 0) 1 1 Try.underlying25 hi hz0 hz1 hz2 rfl (by decide) _ _ _ rfl (World.ownsRow.alloc hown _) ⟨(wr).heap.size, 0, none⟩ 1 1 _ rfl rfl (cell_one_new _ _ _) (by intro u hu; simp at hu; subst hu; rfl) (by unfold maxLen; omega) (by omega) (by simp; omega) ?_)
        intro v' w1 hown' hgrow _
        have R1 := own_byte hown' rfl (byte_high m)
        have R2 := below_push hbel hown hgrow hsz (Nat.le_refl _)
        clear hown' hgrow hown hbel
        go_wp2
        go_roundw
        case rel => exact ⟨m / 128, _, by go_num, by omega, Hinv.out.step (by omega), (Hinv.out.step (by omega)).len, R1, R2⟩
        case measure => simp [intOf]; omega
      · go_wp2_with (at_builtin; refine wpList_append_own _ rfl _ _ 25 rfl (w.heap.size) 5 i0 (.int .u8 0) 1 1 Try.underlying25 hi hz0 hz1 hz2 rfl (by decide) _ _ _ rfl (World.ownsRow.alloc hown _) ⟨(wr).heap.size, 0, none⟩ 1 1 _ rfl rfl (cell_one_new _ _ _) (by intro u hu; simp at hu; subst hu; rfl) (by unfold maxLen; omega) (by omega) (by simp; omega) ?_)
        intro v' w1 hown' hgrow _
        have R1 := own_byte hown' rfl (byte_low m (by omega))
        have R2 := below_push hbel hown hgrow hsz (Nat.le_refl _)
        clear hown' hgrow hown hbel
        go_wp2
        go_ret
        refine ⟨v', rfl, ?_, R2⟩
        have e := Hinv.out.stop (show m < 128 by omega)
        rw [e] at R1
        exact R1
end Go.Proofs.Ytlhcohpcjleekaa
