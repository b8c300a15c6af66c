/-
  vect.Set and firthref04.Set: all that a vector covers, as spans; firthref03.Same: two lists of spans are the same.
-/
import Derived.Test.YtjjemoiblbehoaaVectBump
import Derived.Test.YtjjemoiblbehoaaSpanSame
import Derived.Deep.QuietTactic
import Derived.BigQuiet
namespace Go.Proofs.Ytjjemoiblbehoaa
open Go.RowKit
set_option linter.unusedVariables false

/-- The spans of the first k sites. -/
def setTo (l : List Int) : Nat → List Sp
  | 0 => []
  | k + 1 => setTo l k ++ (if 0 < l.getD k 0 then [((k : Int) + 1, 1, l.getD k 0)] else [])
def setL (l : List Int) : List Sp := if rightB l then setTo l l.length else []
theorem setTo_len (l : List Int) (k : Nat) : (setTo l k).length ≤ k := by
  induction k with
  | zero => simp [setTo]
  | succ k ih =>
    unfold setTo
    rw [List.length_append]
    split <;> simp <;> omega

theorem setTo_step {l : List Int} {k : Nat} {x : Int} (hx : l[k]? = some x) : setTo l (k + 1) = setTo l k ++ (if 0 < x then [((k : Int) + 1, 1, x)] else []) := by
  have e : l.getD k 0 = x := by rw [List.getD_eq_getElem?_getD, hx]; rfl
  show setTo l k ++ (if 0 < l.getD k 0 then [((k : Int) + 1, 1, l.getD k 0)] else []) = _
  rw [e]
set_option maxHeartbeats 1000000 in
set_option maxRecDepth 100000 in
theorem set_any (A : Option Addr) (n c : Nat) (l : List Int) (w : World) (hs : SlI w A n l) (hn : n ≤ 140737488351232) :
    Calls Try.prog 28 #[.slice A n c] w (NewSpans w (setL l)) := by
  obtain ⟨i0, hi, hz0, hz1, hz2⟩ := info_parts Try.infoSpan
  have hll := hs.len
  cases hr : rightB l
  · have HF := Lib.hid (show setL l = [] by simp [setL, hr])
    have C0 := right_any A n c l w hs hn
    rw [hr] at C0
    have C := Lib.hid C0
    clear hr C0
    go_enter Try.func28, Try.ntmps28
    go_wp2
    go_loop [3, 8] (fun v i => ∃ k : Nat, v = .slice none 0 0 ∧ i = .int .i64 (k : Int) ∧ k ≤ n) (fun _ i => n - (intOf i).toNat)
    case atStart => exact ⟨0, rfl, rfl, Nat.zero_le _⟩
    case round =>
      obtain ⟨k, rfl, rfl, hk⟩ := hrel
      by_cases hlt : k < n
      · obtain ⟨b, off, x, rfl, hx, hc⟩ := hs.at_ hlt
        clear hx
        go_wp2_with fail
        refine C.out.mono ?_
        rintro e w' ⟨rfl, rfl⟩
        go_wp2
        go_round
        case rel => exact ⟨k + 1, rfl, by go_num, by omega⟩
        case measure => simp [intOf]; omega
      · go_wp2
        go_ret
        exact ⟨none, 0, 0, rfl, by rw [HF.out]; exact Sl.nil _ _ _, Nat.le_refl _, by rw [HF.out]; exact World.ownsRow_nil _ _ _ _, Below.refl _ _⟩
  · have HF := Lib.hid (show setL l = setTo l n by simp [setL, hr, hll])
    have C0 := fun W (h : SlI W A n l) => right_any A n c l W h hn
    simp only [hr] at C0
    have C := Lib.hid C0
    have h16 := (right_true hr).2.1
    clear hr C0
    go_enter Try.func28, Try.ntmps28
    go_wp2
    go_loopw [3, 8] (fun v i wr => ∃ k : Nat, i = .int .i64 (k : Int) ∧ k ≤ n ∧ wr.ownsRow w.heap.size 55 3 v (setTo l k).length (spV (setTo l k)) ∧ Below w.heap.size w wr) (fun _ i _ => n - (intOf i).toNat)
    case atStart => exact ⟨0, rfl, Nat.zero_le _, World.ownsRow_nil _ _ _ _, Below.refl _ _⟩
    case round =>
      obtain ⟨k, rfl, hk, hown, hbel⟩ := hrel
      have hsz := hbel.size
      have hsl := setTo_len l k
      by_cases hlt : k < n
      · obtain ⟨b, off, x, rfl, hx, hc⟩ := SlI.at_ (Sl.below hs hbel) hlt
        have CR := Lib.hid (C.out _ (Sl.below hs hbel))
        have HX := Lib.hid (setTo_step hx)
        clear hx
        by_cases h0 : 0 < x
        · go_wp2_with fail
          refine CR.out.mono ?_
          rintro e w' ⟨rfl, rfl⟩
          go_wp2_with (at_builtin; refine wpList_append_own _ rfl _ _ 32 rfl (w.heap.size) 55 i0 (.agg #[.int .i64 0, .int .i64 0, .int .i64 0]) 3 24 Try.underlying32 hi hz0 hz1 hz2 rfl (by decide) _ _ _ rfl (World.ownsRow.alloc hown _) ⟨(wr).heap.size, 0, none⟩ 1 1 _ rfl rfl (cell_three_new _ _ _ _ _) (by intro u hu; simp at hu; rcases hu with rfl | rfl | rfl <;> rfl) (by unfold maxLen; omega) (by omega) (by simp; omega) ?_)
          intro v' w2 hown' hgrow _
          have R1 := own_span hown' rfl (show setTo l (k + 1) = _ by rw [HX.out, if_pos h0])
          have R2 := below_push hbel hown hgrow hsz (Nat.le_refl _)
          clear hown' hown hgrow hbel CR
          go_wp2
          go_roundw
          case rel => exact ⟨k + 1, by go_num, by omega, R1, R2⟩
          case measure => simp [intOf]; omega
        · have R1 : setTo l (k + 1) = setTo l k := by rw [HX.out, if_neg h0, List.append_nil]
          have R2 := Lib.hid R1
          clear R1
          go_wp2_with fail
          refine CR.out.mono ?_
          rintro e w' ⟨rfl, rfl⟩
          clear CR
          go_wp2
          go_roundw
          case rel => exact ⟨k + 1, by go_num, by omega, by rw [R2.out]; exact hown, hbel⟩
          case measure => simp [intOf]; omega
      · obtain rfl : k = n := by omega
        obtain ⟨Ar, cr, rfl, hcr, hmr⟩ := own_slice hown
        go_wp2
        go_ret
        exact ⟨Ar, _, cr, rfl, by rw [HF.out]; exact Sl.of_own hown, hcr, by rw [HF.out]; exact hown, hbel⟩

set_option maxHeartbeats 1000000 in
set_option maxRecDepth 100000 in
theorem refSet_any (A : Option Addr) (n c : Nat) (l : List Int) (w : World) (hs : SlI w A n l) (hn : n ≤ 140737488351232) :
    Calls Try.prog 29 #[.slice A n c] w (NewSpans w (setL l)) := by
  obtain ⟨i0, hi, hz0, hz1, hz2⟩ := info_parts Try.infoSpan
  have hll := hs.len
  cases hr : rightB l
  · have HF := Lib.hid (show setL l = [] by simp [setL, hr])
    have C0 := refRight_any A n c l w hs hn
    rw [hr] at C0
    have C := Lib.hid C0
    clear hr C0
    go_enter Try.func29, Try.ntmps29
    go_wp2
    go_loop [3, 4] (fun v i => v = .slice none 0 0 ∧ i = .int .i64 0) (fun _ _ => 0)
    case atStart => exact ⟨rfl, rfl⟩
    case round =>
      obtain ⟨rfl, rfl⟩ := hrel
      by_cases hlt : 0 < n
      · go_wp2_with fail
        refine C.out.mono ?_
        rintro e w' ⟨rfl, rfl⟩
        go_wp2
        go_ret
        exact ⟨none, 0, 0, rfl, by rw [HF.out]; exact Sl.nil _ _ _, Nat.le_refl _, by rw [HF.out]; exact World.ownsRow_nil _ _ _ _, Below.refl _ _⟩
      · go_wp2
        go_ret
        exact ⟨none, 0, 0, rfl, by rw [HF.out]; exact Sl.nil _ _ _, Nat.le_refl _, by rw [HF.out]; exact World.ownsRow_nil _ _ _ _, Below.refl _ _⟩
  · have HF := Lib.hid (show setL l = setTo l n by simp [setL, hr, hll])
    have C0 := fun W (h : SlI W A n l) => refRight_any A n c l W h hn
    simp only [hr] at C0
    have C := Lib.hid C0
    have h16 := (right_true hr).2.1
    clear hr C0
    go_enter Try.func29, Try.ntmps29
    go_wp2
    go_loopw [3, 4] (fun v i wr => ∃ k : Nat, i = .int .i64 (k : Int) ∧ k ≤ n ∧ wr.ownsRow w.heap.size 55 3 v (setTo l k).length (spV (setTo l k)) ∧ Below w.heap.size w wr) (fun _ i _ => n - (intOf i).toNat)
    case atStart => exact ⟨0, rfl, Nat.zero_le _, World.ownsRow_nil _ _ _ _, Below.refl _ _⟩
    case round =>
      obtain ⟨k, rfl, hk, hown, hbel⟩ := hrel
      have hsz := hbel.size
      have hsl := setTo_len l k
      by_cases hlt : k < n
      · obtain ⟨b, off, x, rfl, hx, hc⟩ := SlI.at_ (Sl.below hs hbel) hlt
        have CR := Lib.hid (C.out _ (Sl.below hs hbel))
        have HX := Lib.hid (setTo_step hx)
        clear hx
        by_cases h0 : 0 < x
        · go_wp2_with fail
          refine CR.out.mono ?_
          rintro e w' ⟨rfl, rfl⟩
          go_wp2_with (at_builtin; refine wpList_append_own _ rfl _ _ 32 rfl (w.heap.size) 55 i0 (.agg #[.int .i64 0, .int .i64 0, .int .i64 0]) 3 24 Try.underlying32 hi hz0 hz1 hz2 rfl (by decide) _ _ _ rfl (World.ownsRow.alloc hown _) ⟨(wr).heap.size, 0, none⟩ 1 1 _ rfl rfl (cell_three_new _ _ _ _ _) (by intro u hu; simp at hu; rcases hu with rfl | rfl | rfl <;> rfl) (by unfold maxLen; omega) (by omega) (by simp; omega) ?_)
          intro v' w2 hown' hgrow _
          have R1 := own_span hown' rfl (show setTo l (k + 1) = _ by rw [HX.out, if_pos h0])
          have R2 := below_push hbel hown hgrow hsz (Nat.le_refl _)
          clear hown' hown hgrow hbel CR
          go_wp2
          go_roundw
          case rel => exact ⟨k + 1, by go_num, by omega, R1, R2⟩
          case measure => simp [intOf]; omega
        · have R1 : setTo l (k + 1) = setTo l k := by rw [HX.out, if_neg h0, List.append_nil]
          have R2 := Lib.hid R1
          clear R1
          go_wp2_with fail
          refine CR.out.mono ?_
          rintro e w' ⟨rfl, rfl⟩
          clear CR
          go_wp2
          go_roundw
          case rel => exact ⟨k + 1, by go_num, by omega, by rw [R2.out]; exact hown, hbel⟩
          case measure => simp [intOf]; omega
      · obtain rfl : k = n := by omega
        obtain ⟨Ar, cr, rfl, hcr, hmr⟩ := own_slice hown
        go_wp2
        go_ret
        exact ⟨Ar, _, cr, rfl, by rw [HF.out]; exact Sl.of_own hown, hcr, by rw [HF.out]; exact hown, hbel⟩

end Go.Proofs.Ytjjemoiblbehoaa
