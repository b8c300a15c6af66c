/-
  firthref01.Same tells whether two rows of bytes are the same; num.PutText and firthref01.PutText write a text.
-/
import Derived.Test.YtlhcohpcjleekaaNumPut
import Derived.Deep.QuietTactic
import Derived.BigQuiet
namespace Go.Proofs.Ytlhcohpcjleekaa
open Go.RowKit
set_option linter.unusedVariables false

set_option maxHeartbeats 400000 in
theorem putText_any (s : ByteArray) (w : World) (hs : s.size ≤ 140737488351232) :
    Calls Try.prog 24 #[.string s] w (NewBytes w (putNum s.size ++ s.data.toList)) := by
  obtain ⟨i0, hi, hz0, hz1, hz2⟩ := info_parts Try.infoU8
  have hl := putNum_len s.size
  go_enter Try.func24, Try.ntmps24
  go_wp2_with fail
  refine (putNum_any _ _ (by omega)).mono ?_
  rintro e w1 ⟨v1, rfl, hown, hbel⟩
  have hsz := hbel.size
  go_wp2_with (at_builtin; refine Lib.wpList_append_own_string _ rfl _ _ 25 9 rfl w.heap.size 5 i0 Try.underlying25 Try.underlying9 hi hz0 hz1 hz2 _ _ _ rfl hown s rfl (by unfold maxLen; omega) (by omega) hsz ?_)
  intro v' w2 hown' hgrow _
  go_wp2
  go_ret
  refine ⟨v', rfl, ?_, below_grow hbel hown hgrow hsz (Nat.le_refl _)⟩
  rw [bsV_append, List.length_append]
  simpa [strCells_bsV] using hown'

theorem take_snoc (s : ByteArray) (k : Nat) (h : k < s.size) : s.data.toList.take (k + 1) = s.data.toList.take k ++ [s[k]] := by
  rw [List.take_succ_eq_append_getElem (by simpa using h)]; rfl

set_option maxHeartbeats 400000 in
theorem refPutText_any (s : ByteArray) (w : World) (hs : s.size ≤ 140737488351232) :
    Calls Try.prog 26 #[.string s] w (NewBytes w (putNum s.size ++ s.data.toList)) := by
  obtain ⟨i0, hi, hz0, hz1, hz2⟩ := info_parts Try.infoU8
  have hl := putNum_len s.size
  go_enter Try.func26, Try.ntmps26
  go_wp2_with fail
  refine (refPutNum_any _ _ (by omega)).mono ?_
  rintro e w1 ⟨v1, rfl, hown1, hbel1⟩
  have hsz1 := hbel1.size
  go_wp2
  go_loopw [3, 4] (fun b i wr => ∃ (k : Nat), i = .int .i64 (k : Int) ∧ k ≤ s.size ∧ wr.ownsRow w.heap.size 5 1 b (putNum s.size ++ s.data.toList.take k).length (bsV (putNum s.size ++ s.data.toList.take k)) ∧ Below w.heap.size w wr)
    (fun _ i _ => s.size - (intOf i).toNat)
  case atStart => exact ⟨0, rfl, Nat.zero_le _, by simpa using hown1, hbel1⟩
  case round =>
    obtain ⟨k, rfl, hk, hown, hbel⟩ := hrel
    have hsz := hbel.size
    have hlen : (putNum s.size ++ s.data.toList.take k).length ≤ 9 + k := by simp; omega
    clear hown1 hbel1
    by_cases hlt : k < s.size
    · go_wp2_with (at_builtin; refine wpList_append_own _ rfl _ _ 25 rfl (w.heap.size) 5 i0 (.int .u8 0) 1 1 Try.underlying25 hi hz0 hz1 hz2 rfl (by decide) _ _ _ rfl (World.ownsRow.alloc hown _) ⟨(wr).heap.size, 0, none⟩ 1 1 _ rfl rfl (cell_one_new _ _ _) (by intro u hu; simp at hu; subst hu; rfl) (by unfold maxLen; omega) (by omega) (by simp; omega) ?_)
      intro v' w2 hown' hgrow _
      have R1 := own_byte hown' (by simp; omega) (x := s[k]) rfl
      have R2 := below_push hbel hown hgrow hsz (Nat.le_refl _)
      clear hown' hgrow hown hbel
      have HT := Lib.hid (take_snoc s k hlt)
      go_wp2
      go_roundw
      case rel => exact ⟨k + 1, by go_num, by omega, by rw [HT.out, ← List.append_assoc]; exact R1, R2⟩
      case measure => simp [intOf]; omega
    · go_wp2
      go_ret
      have hk2 : k = s.size := by omega
      subst hk2
      rw [List.take_of_length_le (by simp)] at hown
      exact ⟨_, rfl, hown, hbel⟩
end Go.Proofs.Ytlhcohpcjleekaa
