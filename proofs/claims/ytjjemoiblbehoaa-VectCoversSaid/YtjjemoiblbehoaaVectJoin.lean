/-
  vect.Join and firthref04.Join take the greater counts.
-/
import Derived.Test.YtjjemoiblbehoaaVectRight
namespace Go.Proofs.Ytjjemoiblbehoaa
open Go.RowKit
set_option linter.unusedVariables false

theorem Try.infoI64 : (Try.prog.info? 2).map (fun i => (i.zero, i.size, i.bytes)) = some (some (.int .i64 0), 1, 8) := by kernel_rfl

/-- What a call leaves that answers new counts and an error's number: where there is an error there is no list. -/
def NewVec (w : World) (l : List Int) (x : Int) (e : Ending) (w' : World) : Prop :=
  ∃ A n c, e = .returned (.tuple #[.slice A n c, .int .i64 x]) ∧ SlI w' A n l ∧ n ≤ c ∧ w'.ownsRow w.heap.size 2 1 (.slice A n c) n (l.map (Value.int .i64)) ∧ Below w.heap.size w w'

set_option maxHeartbeats 400000 in
theorem join_no (A1 A2 : Option Addr) (n1 n2 c1 c2 : Nat) (l1 l2 : List Int) (w : World) (h1 : SlI w A1 n1 l1) (h2 : SlI w A2 n2 l2) (hn1 : n1 ≤ 140737488351232) (hn2 : n2 ≤ 140737488351232) (hj : joinOk l1 l2 = false) :
    Calls Try.prog 10 #[.slice A1 n1 c1, .slice A2 n2 c2] w fun e w' => e = .returned (.tuple #[.slice none 0 0, .int .i64 1]) ∧ w = w' := by
  have e1 := h1.len
  have e2 := h2.len
  have C1 := Lib.hid (fun c => right_any A1 n1 c l1 w h1 hn1)
  have C2 := Lib.hid (fun c => right_any A2 n2 c l2 w h2 hn2)
  cases hr1 : rightB l1
  · rw [hr1] at C1
    go_enter Try.func10, Try.ntmps10
    go_wp2_with fail
    refine (C1.out _).mono ?_
    rintro e w' ⟨rfl, rfl⟩
    go_wp2
    go_ret2
    exact ⟨rfl, rfl⟩
  · rw [hr1] at C1
    cases hr2 : rightB l2
    · rw [hr2] at C2
      go_enter Try.func10, Try.ntmps10
      go_wp2_with fail
      refine (C1.out _).mono ?_
      rintro e w' ⟨rfl, rfl⟩
      go_wp2_with fail
      refine (C2.out _).mono ?_
      rintro e w' ⟨rfl, rfl⟩
      go_wp2
      go_ret2
      exact ⟨rfl, rfl⟩
    · rw [hr2] at C2
      have hne : ((n1 : Int) != (n2 : Int)) = true := by
        simp only [joinOk, hr1, hr2, Bool.true_and, decide_eq_false_iff_not] at hj
        simp; omega
      go_enter Try.func10, Try.ntmps10
      go_wp2_with fail
      refine (C1.out _).mono ?_
      rintro e w' ⟨rfl, rfl⟩
      go_wp2_with fail
      refine (C2.out _).mono ?_
      rintro e w' ⟨rfl, rfl⟩
      go_wp2
      go_ret2
      exact ⟨rfl, rfl⟩

theorem joinOk_parts {a b : List Int} (h : joinOk a b = true) : rightB a = true ∧ rightB b = true ∧ a.length = b.length := by
  simp only [joinOk, Bool.and_eq_true, decide_eq_true_eq] at h
  exact ⟨h.1.1, h.1.2, h.2⟩

theorem joined_push {wr : World} {g t : Nat} {l1 l2 : List Int} {k : Nat} {x y z : Int} (h : Arr wr g t 16 (((joinL l1 l2).take k).map (Value.int .i64)))
    (hz : (List.zipWith max l1 l2).take (k + 1) = (List.zipWith max l1 l2).take k ++ [max x y]) (hk : ((joinL l1 l2).take k).length = k) (hm : max x y = z) (h16 : k < 16) :
    Arr (wr.setCell ⟨g, k, none⟩ (.int .i64 z)) g t 16 (((joinL l1 l2).take (k + 1)).map (Value.int .i64)) := by
  have e : (joinL l1 l2).take (k + 1) = (joinL l1 l2).take k ++ [z] := by rw [← hm]; exact hz
  rw [e, List.map_append]
  exact h.push (by rw [List.length_map, hk]; exact h16) _ (by rw [List.length_map, hk])

set_option maxHeartbeats 1000000 in
set_option maxRecDepth 100000 in
theorem join_yes (A1 A2 : Option Addr) (n1 n2 c1 c2 : Nat) (l1 l2 : List Int) (w : World) (h1 : SlI w A1 n1 l1) (h2 : SlI w A2 n2 l2) (hj : joinOk l1 l2 = true) :
    Calls Try.prog 10 #[.slice A1 n1 c1, .slice A2 n2 c2] w (NewVec w (joinL l1 l2) 0) := by
  obtain ⟨i0, hi, hz0, hz1, hz2⟩ := info_parts Try.infoI64
  have e1 := h1.len
  have e2 := h2.len
  obtain ⟨r1, r2, r3⟩ := joinOk_parts hj
  obtain ⟨t1, t2, t3⟩ := right_true r1
  have hn : n1 = n2 := by omega
  have hn1 : 1 ≤ n1 := by omega
  have hn16 : n1 ≤ 16 := by omega
  have C1 := Lib.hid (fun c => right_any A1 n1 c l1 w h1 (by omega))
  have C2 := Lib.hid (fun c => right_any A2 n2 c l2 w h2 (by omega))
  rw [r1] at C1
  rw [r2] at C2
  clear hj r1 r2 r3 t1 t2 t3
  subst hn
  go_enter Try.func10, Try.ntmps10
  go_wp2_with fail
  refine (C1.out _).mono ?_
  rintro e w' ⟨rfl, rfl⟩
  go_wp2_with fail
  refine (C2.out _).mono ?_
  rintro e w' ⟨rfl, rfl⟩
  go_wp2
  go_loopw [25] (fun i wr => ∃ k : Nat, i = .int .i64 (k : Int) ∧ k ≤ n1 ∧ Arr wr w.heap.size 53 16 (((joinL l1 l2).take k).map (Value.int .i64)) ∧ Below w.heap.size w wr) (fun i _ => n1 - (intOf i).toNat)
  case atStart => exact ⟨0, rfl, Nat.zero_le _, by rw [List.take_zero]; exact Arr.new' w _ _ rfl, (Below.refl _ _).alloc (Nat.le_refl _) _⟩
  case round =>
    obtain ⟨k, rfl, hk, harr, hbel⟩ := hrel
    by_cases hlt : k < n1
    · have hs1 := Sl.below h1 hbel
      have hs2 := Sl.below h2 hbel
      obtain ⟨b, off, x, rfl, hx, hc⟩ := SlI.at_ hs1 hlt
      obtain ⟨b', off', y, rfl, hy, hc'⟩ := SlI.at_ hs2 hlt
      have HZ := Lib.hid (zip_take max l1 l2 k hx hy)
      have hlk : ((joinL l1 l2).take k).length = k := by simp [joinL]; omega
      have HLK := Lib.hid hlk
      clear hx hy hs1 hs2 hlk
      obtain ⟨old, hold⟩ := harr.cell (j := k) (by omega)
      have hfr := harr.free k
      have j0 : (0 : Int) ≤ (k : Int) := by omega
      have j1 : (k : Int) < (n1 : Int) := by omega
      have j2 : (k : Int) < 16 := by omega
      have hsz := hbel.size
      by_cases hxy : x < y
      · have R1 := Lib.hid (joined_push harr HZ.out HLK.out (show max x y = y by omega) (by omega))
        have R2 := hbel.setCell (p := ⟨w.heap.size, k, none⟩) (Nat.le_refl _) (.int .i64 y) |>.drew
        clear harr hbel
        go_wp2
        go_region
        all_goals go_wp2
        all_goals go_roundw
        case rel => exact ⟨k + 1, by go_num, by omega, R1.out, R2⟩
        case measure => simp [intOf]; omega
      · have R1 := Lib.hid (joined_push harr HZ.out HLK.out (show max x y = x by omega) (by omega))
        have R2 := hbel.setCell (p := ⟨w.heap.size, k, none⟩) (Nat.le_refl _) (.int .i64 x) |>.drew
        clear harr hbel
        go_wp2
        go_region
        all_goals go_wp2
        all_goals go_roundw
        case rel => exact ⟨k + 1, by go_num, by omega, R1.out, R2⟩
        case measure => simp [intOf]; omega
    · obtain rfl : k = n1 := by omega
      have hjl : (joinL l1 l2).length = k := by simp [joinL]; omega
      rw [List.take_of_length_le (by omega)] at harr
      have hsl := harr.read (n := k) (by rw [List.length_map]; exact hjl)
      have hsz := hbel.size
      have HJ := Lib.hid hjl
      clear hjl
      have j0 : (k : Int) ≤ 16 := by omega
      go_wp2_with (at_builtin; refine wpList_append_sl _ rfl (.tmp 40) (.tmp 43) 22 rfl (w.heap.size) 2 i0 (.int .i64 0) 1 8 Try.underlying22 hi hz0 hz1 hz2 rfl (by decide) (.slice (some ⟨wr.heap.size, 0, none⟩) 0 0) (0) ([]) rfl (World.ownsRow_lit wr #[] 0 hsz (by unfold maxLen; omega) rfl) (some ⟨w.heap.size, 0, none⟩) (k) (16) ((joinL l1 l2).map (Value.int .i64)) rfl (hsl.alloc _) (ints_one _) (by unfold maxLen; omega) (by omega) (by simp; omega) ?_)
      intro v' w2 hown hgrow _
      have R2 : Below w.heap.size w w2 := (hbel.alloc hsz _).grown hgrow (by simp; omega) (fun g hg => by simp [Value.ownBlock] at hg; omega)
      clear hgrow hbel harr hsl
      obtain ⟨A, c, rfl, hc, hm⟩ := own_slice hown
      go_wp2
      go_ret2
      exact ⟨A, k, c, rfl, Sl.of_own hown, hc, hown, R2⟩

theorem join_any (A1 A2 : Option Addr) (n1 n2 c1 c2 : Nat) (l1 l2 : List Int) (w : World) (h1 : SlI w A1 n1 l1) (h2 : SlI w A2 n2 l2) (hn1 : n1 ≤ 140737488351232) (hn2 : n2 ≤ 140737488351232) :
    Calls Try.prog 10 #[.slice A1 n1 c1, .slice A2 n2 c2] w (NewVec w (if joinOk l1 l2 then joinL l1 l2 else []) (if joinOk l1 l2 then 0 else 1)) := by
  cases hj : joinOk l1 l2
  · refine (join_no A1 A2 n1 n2 c1 c2 l1 l2 w h1 h2 hn1 hn2 hj).mono ?_
    rintro e w' ⟨rfl, rfl⟩
    exact ⟨none, 0, 0, rfl, Sl.nil _ _ _, Nat.le_refl _, World.ownsRow_nil _ _ _ _, Below.refl _ _⟩
  · exact join_yes A1 A2 n1 n2 c1 c2 l1 l2 w h1 h2 hj

theorem joined_snoc {l1 l2 : List Int} {k : Nat} {x y z : Int}
    (hz : (List.zipWith max l1 l2).take (k + 1) = (List.zipWith max l1 l2).take k ++ [max x y]) (hm : max x y = z) :
    ((joinL l1 l2).take (k + 1)).map (Value.int .i64) = ((joinL l1 l2).take k).map (Value.int .i64) ++ [.int .i64 z] := by
  have e : (joinL l1 l2).take (k + 1) = (joinL l1 l2).take k ++ [z] := by rw [← hm]; exact hz
  rw [e, List.map_append]; rfl

set_option maxHeartbeats 1000000 in
set_option maxRecDepth 100000 in
theorem refJoin_yes (A1 A2 : Option Addr) (n1 n2 c1 c2 : Nat) (l1 l2 : List Int) (w : World) (h1 : SlI w A1 n1 l1) (h2 : SlI w A2 n2 l2) (hj : joinOk l1 l2 = true) :
    Calls Try.prog 11 #[.slice A1 n1 c1, .slice A2 n2 c2] w (NewVec w (joinL l1 l2) 0) := by
  obtain ⟨i0, hi, hz0, hz1, hz2⟩ := info_parts Try.infoI64
  have e1 := h1.len
  have e2 := h2.len
  obtain ⟨r1, r2, r3⟩ := joinOk_parts hj
  obtain ⟨t1, t2, t3⟩ := right_true r1
  have hn : n1 = n2 := by omega
  have hn1 : 1 ≤ n1 := by omega
  have hn16 : n1 ≤ 16 := by omega
  have C1 := Lib.hid (fun c => refRight_any A1 n1 c l1 w h1 (by omega))
  have C2 := Lib.hid (fun c => refRight_any A2 n2 c l2 w h2 (by omega))
  rw [r1] at C1
  rw [r2] at C2
  clear hj r1 r2 r3 t1 t2 t3
  subst hn
  go_enter Try.func11, Try.ntmps11
  go_wp2_with fail
  refine (C1.out _).mono ?_
  rintro e w' ⟨rfl, rfl⟩
  go_wp2_with fail
  refine (C2.out _).mono ?_
  rintro e w' ⟨rfl, rfl⟩
  go_wp2
  go_loopw [6, 7] (fun v i wr => ∃ k : Nat, i = .int .i64 (k : Int) ∧ k ≤ n1 ∧ wr.ownsRow w.heap.size 2 1 v k (((joinL l1 l2).take k).map (Value.int .i64)) ∧ Below w.heap.size w wr) (fun _ i _ => n1 - (intOf i).toNat)
  case atStart => exact ⟨0, rfl, Nat.zero_le _, by rw [List.take_zero]; exact World.ownsRow_nil _ _ _ _, Below.refl _ _⟩
  case round =>
    obtain ⟨k, rfl, hk, hown, hbel⟩ := hrel
    have hsz := hbel.size
    by_cases hlt : k < n1
    · have hs1 := Sl.below h1 hbel
      have hs2 := Sl.below h2 hbel
      obtain ⟨b, off, x, rfl, hx, hc⟩ := SlI.at_ hs1 hlt
      obtain ⟨b', off', y, rfl, hy, hc'⟩ := SlI.at_ hs2 hlt
      have HZ := Lib.hid (zip_take max l1 l2 k hx hy)
      clear hx hy hs1 hs2
      by_cases hxy : x < y
      · have HM := Lib.hid (show max x y = y by omega)
        go_wp2_with (at_builtin; refine wpList_append_own _ rfl _ _ 22 rfl (w.heap.size) 2 i0 (.int .i64 0) 1 8 Try.underlying22 hi hz0 hz1 hz2 rfl (by decide) _ _ _ rfl (World.ownsRow.alloc hown _) ⟨(wr).heap.size, 0, none⟩ 1 1 _ rfl rfl (cell_one_new _ _ _) (by intro u hu; simp at hu; subst hu; rfl) (by unfold maxLen; omega) (by omega) (by simp; omega) ?_)
        intro v' w2 hown' hgrow _
        rw [← List.map_take, ← joined_snoc HZ.out HM.out] at hown'
        have R2 := below_push hbel hown hgrow hsz (Nat.le_refl _)
        clear hown hgrow hbel
        go_wp2
        go_roundw
        case rel => exact ⟨k + 1, by go_num, by omega, hown', R2⟩
        case measure => simp [intOf]; omega
      · have HM := Lib.hid (show max x y = x by omega)
        go_wp2_with (at_builtin; refine wpList_append_own _ rfl _ _ 22 rfl (w.heap.size) 2 i0 (.int .i64 0) 1 8 Try.underlying22 hi hz0 hz1 hz2 rfl (by decide) _ _ _ rfl (World.ownsRow.alloc hown _) ⟨(wr).heap.size, 0, none⟩ 1 1 _ rfl rfl (cell_one_new _ _ _) (by intro u hu; simp at hu; subst hu; rfl) (by unfold maxLen; omega) (by omega) (by simp; omega) ?_)
        intro v' w2 hown' hgrow _
        rw [← List.map_take, ← joined_snoc HZ.out HM.out] at hown'
        have R2 := below_push hbel hown hgrow hsz (Nat.le_refl _)
        clear hown hgrow hbel
        go_wp2
        go_roundw
        case rel => exact ⟨k + 1, by go_num, by omega, hown', R2⟩
        case measure => simp [intOf]; omega
    · obtain rfl : k = n1 := by omega
      have hjl : (joinL l1 l2).length = k := by simp [joinL]; omega
      rw [List.take_of_length_le (by omega)] at hown
      clear hjl
      obtain ⟨A, c, rfl, hc, hm⟩ := own_slice hown
      go_wp2
      go_ret2
      exact ⟨A, k, c, rfl, Sl.of_own hown, hc, hown, hbel⟩

set_option maxHeartbeats 400000 in
theorem refJoin_no (A1 A2 : Option Addr) (n1 n2 c1 c2 : Nat) (l1 l2 : List Int) (w : World) (h1 : SlI w A1 n1 l1) (h2 : SlI w A2 n2 l2) (hn1 : n1 ≤ 140737488351232) (hn2 : n2 ≤ 140737488351232) (hj : joinOk l1 l2 = false) :
    Calls Try.prog 11 #[.slice A1 n1 c1, .slice A2 n2 c2] w fun e w' => e = .returned (.tuple #[.slice none 0 0, .int .i64 1]) ∧ w = w' := by
  have e1 := h1.len
  have e2 := h2.len
  have C1 := Lib.hid (fun c => refRight_any A1 n1 c l1 w h1 hn1)
  have C2 := Lib.hid (fun c => refRight_any A2 n2 c l2 w h2 hn2)
  cases hr1 : rightB l1
  · rw [hr1] at C1
    go_enter Try.func11, Try.ntmps11
    go_wp2_with fail
    refine (C1.out _).mono ?_
    rintro e w' ⟨rfl, rfl⟩
    go_wp2
    go_ret2
    exact ⟨rfl, rfl⟩
  · rw [hr1] at C1
    cases hr2 : rightB l2
    · rw [hr2] at C2
      go_enter Try.func11, Try.ntmps11
      go_wp2_with fail
      refine (C1.out _).mono ?_
      rintro e w' ⟨rfl, rfl⟩
      go_wp2_with fail
      refine (C2.out _).mono ?_
      rintro e w' ⟨rfl, rfl⟩
      go_wp2
      go_ret2
      exact ⟨rfl, rfl⟩
    · rw [hr2] at C2
      have hne : ((n1 : Int) != (n2 : Int)) = true := by
        simp only [joinOk, hr1, hr2, Bool.true_and, decide_eq_false_iff_not] at hj
        simp; omega
      go_enter Try.func11, Try.ntmps11
      go_wp2_with fail
      refine (C1.out _).mono ?_
      rintro e w' ⟨rfl, rfl⟩
      go_wp2_with fail
      refine (C2.out _).mono ?_
      rintro e w' ⟨rfl, rfl⟩
      go_wp2
      go_ret2
      exact ⟨rfl, rfl⟩

theorem refJoin_any (A1 A2 : Option Addr) (n1 n2 c1 c2 : Nat) (l1 l2 : List Int) (w : World) (h1 : SlI w A1 n1 l1) (h2 : SlI w A2 n2 l2) (hn1 : n1 ≤ 140737488351232) (hn2 : n2 ≤ 140737488351232) :
    Calls Try.prog 11 #[.slice A1 n1 c1, .slice A2 n2 c2] w (NewVec w (if joinOk l1 l2 then joinL l1 l2 else []) (if joinOk l1 l2 then 0 else 1)) := by
  cases hj : joinOk l1 l2
  · refine (refJoin_no A1 A2 n1 n2 c1 c2 l1 l2 w h1 h2 hn1 hn2 hj).mono ?_
    rintro e w' ⟨rfl, rfl⟩
    exact ⟨none, 0, 0, rfl, Sl.nil _ _ _, Nat.le_refl _, World.ownsRow_nil _ _ _ _, Below.refl _ _⟩
  · exact refJoin_yes A1 A2 n1 n2 c1 c2 l1 l2 w h1 h2 hj
end Go.Proofs.Ytjjemoiblbehoaa
