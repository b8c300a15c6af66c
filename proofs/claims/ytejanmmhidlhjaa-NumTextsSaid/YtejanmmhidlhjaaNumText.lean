/-
  num.Text and firthref01.Text read a text.
-/
import Derived.Test.YtejanmmhidlhjaaNumReadAll
import Derived.OpenShut
namespace Go.Proofs.Ytejanmmhidlhjaa
open Go.RowKit
set_option linter.unusedVariables false

/-- What is read of the bytes l at a place as a text of at most 'most' bytes: the text, the place behind it, the error's number. -/
def textOf (l : List UInt8) (at_ : Nat) (most : Int) : ByteArray × Int × Int :=
  match rdNum (l.drop at_) with
  | .error x => (ByteArray.empty, 0, x)
  | .ok (m, k) =>
    if max most 0 < (m : Int) then (ByteArray.empty, 0, 3)
    else if l.length < at_ + k + m then (ByteArray.empty, 0, 4)
    else (⟨((l.drop (at_ + k)).take m).toArray⟩, (at_ : Int) + k + m, 0)
def textVal (t : ByteArray × Int × Int) : Value := .tuple #[.string t.1, .int .i64 t.2.1, .int .i64 t.2.2]
def TextAns (w : World) (t : ByteArray × Int × Int) (e : Ending) (w' : World) : Prop := e = .returned (textVal t) ∧ w = w'

theorem SlB.part {w : World} {b off n from_ m : Nat} {l : List UInt8} (hs : SlB w (some ⟨b, off, none⟩) n l) (h : from_ + m ≤ n) : SlB w (some ⟨b, off + from_, none⟩) m ((l.drop from_).take m) := by
  have hl := hs.len
  refine ⟨by rw [bsV_length, List.length_take, List.length_drop]; omega, fun hm => ⟨b, off + from_, rfl, fun j u hu => ?_⟩⟩
  simp only [bsV, List.getElem?_map, List.getElem?_take, List.getElem?_drop, Option.map_eq_some_iff] at hu
  obtain ⟨y, hy, rfl⟩ := hu
  split at hy
  · obtain ⟨b', off', e, hc⟩ := hs.2 (by omega)
    injection e with e
    injection e with e1 e2
    subst e1 e2
    rw [Nat.add_assoc]
    exact hc (from_ + j) _ (by simp [bsV, hy])
  · cases hy

set_option maxHeartbeats 1000000 in
set_option maxRecDepth 100000 in
theorem text_any (A : Option Addr) (n c at_ : Nat) (most : Int) (l : List UInt8) (w : World) (hs : SlB w A n l) (hc : n ≤ c) (hcap : c ≤ 140737488351232) (hat : at_ ≤ n) (hmost : most ≤ 9223372036854775807) :
    Calls Try.prog 17 #[.slice A n c, .int .i64 (at_ : Int), .int .i64 most] w (TextAns w (textOf l at_ most)) := by
  have hll := hs.len
  rcases hr : rdNum (l.drop at_) with x | ⟨m, k⟩
  · have C1 := Lib.hid (num_err hs hc hcap hat hr)
    have hT := Lib.hid (show textOf l at_ most = (ByteArray.empty, 0, x) by simp only [textOf, hr])
    have hx : x = 2 ∨ x = 4 := rdN_err _ _ _ _ hr
    clear hr
    have hx0 : ((x : Int) == 0) = false := by rw [beq_eq_false_iff_ne]; omega
    have hx1 : (x != 0) = true := by rw [bne_iff_ne]; omega
    clear hx
    go_enter Try.func17, Try.ntmps17
    go_wp2_with fail
    refine C1.out.mono ?_
    rintro e w' ⟨rfl, rfl⟩
    go_wp2
    go_ret3
    exact ⟨by rw [hT.out]; rfl, rfl⟩
  · obtain ⟨hk1, hk9, hkl, hm63, htake⟩ := rdNum_ok hr
    have C1 := Lib.hid (num_ok hs hc hcap hat hr)
    have HR := Lib.hid hr
    clear hr htake
    rw [List.length_drop] at hkl
    obtain ⟨b, off, -, rfl, -, -, -⟩ := hs.at_ (k := at_) (by omega)
    rcases (show (0 ≤ most ∧ max most 0 = most) ∨ (most < 0 ∧ max most 0 = 0) by omega) with ⟨hm0, hq⟩ | ⟨hm0, hq⟩
    all_goals
      have Hq := Lib.hid hq
      clear hq
      by_cases h1 : max most 0 < (m : Int)
      · have hT := Lib.hid (show textOf l at_ most = (ByteArray.empty, 0, 3) by simp only [textOf, HR.out]; rw [if_pos h1])
        rw [Hq.out] at h1
        go_enter Try.func17, Try.ntmps17
        go_wp2_with fail
        refine C1.out.mono ?_
        rintro e w' ⟨rfl, rfl⟩
        go_wp2
        all_goals go_ret3
        all_goals exact ⟨by rw [hT.out]; rfl, rfl⟩
      · by_cases h2 : n < at_ + k + m
        · have hT := Lib.hid (show textOf l at_ most = (ByteArray.empty, 0, 4) by simp only [textOf, HR.out]; rw [if_neg h1, if_pos (by omega)])
          rw [Hq.out] at h1
          go_enter Try.func17, Try.ntmps17
          go_wp2_with fail
          refine C1.out.mono ?_
          rintro e w' ⟨rfl, rfl⟩
          go_wp2
          all_goals go_ret3
          all_goals exact ⟨by rw [hT.out]; rfl, rfl⟩
        · have hT := Lib.hid (show textOf l at_ most = (⟨((l.drop (at_ + k)).take m).toArray⟩, (at_ : Int) + k + m, 0) by simp only [textOf, HR.out]; rw [if_neg h1, if_neg (by omega)])
          rw [Hq.out] at h1
          have hp := hs.part (from_ := at_ + k) (m := m) (by omega)
          have hcv := run_convert_SlB (P := Try.prog) hp 23 5 9 Try.underlying23 Try.underlying5 Try.underlying9
          by_cases h3 : c = at_ + k
          · obtain rfl : m = 0 := by omega
            subst h3
            have hcv0 := run_convert_SlB (P := Try.prog) (show SlB w (some ⟨b, off, none⟩) 0 [] from Sl.nil _ _ _) 23 5 9 Try.underlying23 Try.underlying5 Try.underlying9
            clear hcv hp
            go_enter Try.func17, Try.ntmps17
            go_wp2_with fail
            refine C1.out.mono ?_
            rintro e w' ⟨rfl, rfl⟩
            go_wp2
            all_goals go_ret3
            all_goals exact ⟨by rw [hT.out]; simp [textVal], rfl⟩
          · go_enter Try.func17, Try.ntmps17
            go_wp2_with fail
            refine C1.out.mono ?_
            rintro e w' ⟨rfl, rfl⟩
            go_wp2
            all_goals go_ret3
            all_goals exact ⟨by rw [hT.out]; rfl, rfl⟩

set_option maxHeartbeats 1000000 in
set_option maxRecDepth 100000 in
theorem refText_any (A : Option Addr) (n c at_ : Nat) (most : Int) (l : List UInt8) (w : World) (hs : SlB w A n l) (hc : n ≤ c) (hcap : c ≤ 140737488351232) (hat : at_ ≤ n) (hmost : most ≤ 9223372036854775807) :
    Calls Try.prog 18 #[.slice A n c, .int .i64 (at_ : Int), .int .i64 most] w (TextAns w (textOf l at_ most)) := by
  have hll := hs.len
  rcases hr : rdNum (l.drop at_) with x | ⟨m, k⟩
  · have C1 := Lib.hid (refNum_err hs hc hcap hat hr)
    have hT := Lib.hid (show textOf l at_ most = (ByteArray.empty, 0, x) by simp only [textOf, hr])
    have hx : x = 2 ∨ x = 4 := rdN_err _ _ _ _ hr
    clear hr
    have hx0 : ((x : Int) == 0) = false := by rw [beq_eq_false_iff_ne]; omega
    have hx1 : (x != 0) = true := by rw [bne_iff_ne]; omega
    clear hx
    go_enter Try.func18, Try.ntmps18
    go_wp2_with fail
    refine C1.out.mono ?_
    rintro e w' ⟨rfl, rfl⟩
    go_wp2
    go_ret3
    exact ⟨by rw [hT.out]; rfl, rfl⟩
  · obtain ⟨hk1, hk9, hkl, hm63, htake⟩ := rdNum_ok hr
    have C1 := Lib.hid (refNum_ok hs hc hcap hat hr)
    have HR := Lib.hid hr
    clear hr htake
    rw [List.length_drop] at hkl
    obtain ⟨b, off, -, rfl, -, -, -⟩ := hs.at_ (k := at_) (by omega)
    rcases (show (0 ≤ most ∧ max most 0 = most) ∨ (most < 0 ∧ max most 0 = 0) by omega) with ⟨hm0, hq⟩ | ⟨hm0, hq⟩
    all_goals
      have Hq := Lib.hid hq
      clear hq
      by_cases h1 : max most 0 < (m : Int)
      · have hT := Lib.hid (show textOf l at_ most = (ByteArray.empty, 0, 3) by simp only [textOf, HR.out]; rw [if_pos h1])
        rw [Hq.out] at h1
        go_enter Try.func18, Try.ntmps18
        go_wp2_with fail
        refine C1.out.mono ?_
        rintro e w' ⟨rfl, rfl⟩
        go_wp2
        all_goals go_ret3
        all_goals exact ⟨by rw [hT.out]; rfl, rfl⟩
      · by_cases h2 : n < at_ + k + m
        · have hT := Lib.hid (show textOf l at_ most = (ByteArray.empty, 0, 4) by simp only [textOf, HR.out]; rw [if_neg h1, if_pos (by omega)])
          rw [Hq.out] at h1
          go_enter Try.func18, Try.ntmps18
          go_wp2_with fail
          refine C1.out.mono ?_
          rintro e w' ⟨rfl, rfl⟩
          go_wp2
          all_goals go_ret3
          all_goals exact ⟨by rw [hT.out]; rfl, rfl⟩
        · have hT := Lib.hid (show textOf l at_ most = (⟨((l.drop (at_ + k)).take m).toArray⟩, (at_ : Int) + k + m, 0) by simp only [textOf, HR.out]; rw [if_neg h1, if_neg (by omega)])
          rw [Hq.out] at h1
          have hp := hs.part (from_ := at_ + k) (m := m) (by omega)
          have hcv := run_convert_SlB (P := Try.prog) hp 23 5 9 Try.underlying23 Try.underlying5 Try.underlying9
          by_cases h3 : c = at_ + k
          · obtain rfl : m = 0 := by omega
            subst h3
            have hcv0 := run_convert_SlB (P := Try.prog) (show SlB w (some ⟨b, off, none⟩) 0 [] from Sl.nil _ _ _) 23 5 9 Try.underlying23 Try.underlying5 Try.underlying9
            clear hcv hp
            go_enter Try.func18, Try.ntmps18
            go_wp2_with fail
            refine C1.out.mono ?_
            rintro e w' ⟨rfl, rfl⟩
            go_wp2
            all_goals go_ret3
            all_goals exact ⟨by rw [hT.out]; simp [textVal], rfl⟩
          · go_enter Try.func18, Try.ntmps18
            go_wp2_with fail
            refine C1.out.mono ?_
            rintro e w' ⟨rfl, rfl⟩
            go_wp2
            all_goals go_ret3
            all_goals exact ⟨by rw [hT.out]; rfl, rfl⟩
end Go.Proofs.Ytejanmmhidlhjaa
