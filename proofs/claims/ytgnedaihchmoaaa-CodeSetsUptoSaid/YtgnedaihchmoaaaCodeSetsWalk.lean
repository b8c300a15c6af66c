/-
  firthlaw06.CodeSets.
-/
import Derived.Test.YtgnedaihchmoaaaCodeLaws
import Derived.Test.YtgnedaihchmoaaaCodeRefSet
import Derived.Test.YtgnedaihchmoaaaCodeRefWrite
namespace Go.Proofs.Ytgnedaihchmoaaa
open Go.RowKit
set_option linter.unusedVariables false

theorem bytes_conv' {w : World} {A : Option Addr} {n : Nat} {l : List UInt8} (h : SlB w A n l) (c : Nat) : (convert 31 9 (.slice A n c)).run Try.prog w = .ok (.string ⟨l.toArray⟩) w :=
  run_convert_SlB (P := Try.prog) h 31 5 9 Try.underlying31 Try.underlying5 Try.underlying9 c
set_option maxHeartbeats 8000000 in
set_option maxRecDepth 100000 in
theorem codeSets_walk (a0 : Option Addr) (len0 cap0 : Nat) (l0 : List Sp) (a1 : Option Addr) (len1 cap1 : Nat) (l1 : List UInt8) (W : World) (s0 : SlS W a0 len0 l0) (f0 : ∀ x ∈ l0, wfSp x) (b0 : len0 ≤ cap0) (z0 : cap0 * 24 ≤ 140737488351232) (s1 : SlB W a1 len1 l1) (b1 : len1 ≤ cap1) (z1 : cap1 * 1 ≤ 140737488351232) (hsum : cap0 + cap1 ≤ 1048576) :
    Calls Try.prog 8 #[.slice a0 len0 cap0, .slice a1 len1 cap1] W (BoolE W true) := by
  have c1 := putSet_any W a0 len0 cap0 l0 s0 (by omega)
  have HS0 := Lib.hid s0
  have HS1 := Lib.hid s1
  clear s0 s1 f0
  cases hr : rightS l0
  · have e1 : putSetE l0 = ([], 1) := by unfold putSetE; rw [hr]; rfl
    rw [e1] at c1
    have C1 := Lib.hid c1
    have HR := Lib.hid hr
    clear c1 e1 hr
    go_enter Try.func8, Try.ntmps8
    go_wp2_with fail
    refine C1.out.mono ?_
    rintro e w1 ⟨A1, n1, c1, rfl, sx, hc1, -, b2, -⟩
    have hn1 : n1 = 0 := by have := sx.len; simp at this; omega
    subst hn1
    have HB1 := Lib.hid b2
    have c2 := refRightS_any a0 len0 cap0 l0 w1 (Sl.below HS0.out b2) (by omega)
    rw [HR.out] at c2
    have C2 := Lib.hid c2
    have HS2 := Lib.hid (Sl.below HS1.out b2)
    clear C1 sx b2 c2 HS0 HS1 HR
    go_wp2_with fail
    refine C2.out.mono ?_
    rintro e w2 ⟨rfl, b3⟩
    have HB3 := Lib.hid (HB1.out.trans (b3.mono HB1.out.size))
    have HS3 := Lib.hid (Sl.below HS2.out b3)
    clear C2 b3 HB1 HS2
    have C6 := set_any w2 a1 len1 cap1 l1 HS3.out b1 (by omega)
    cases ho : setR okP l1 with
    | none =>
      rw [ho] at C6
      have HO := Lib.hid ho
      have C6 := Lib.hid C6
      clear ho
      go_wp2_with fail
      refine C6.out.mono ?_
      rintro e w6 ⟨rfl, b6⟩
      have HB6 := Lib.hid (HB3.out.trans (b6.mono HB3.out.size))
      have c7 := refSet_any w6 a1 len1 cap1 l1 (Sl.below HS3.out b6) b1 (by omega)
      rw [HO.out] at c7
      have C7 := Lib.hid c7
      clear b6 C6 c7 HB3 HS3 HO
      go_wp2_with fail
      refine C7.out.mono ?_
      rintro e w7 ⟨rfl, b7⟩
      have HB7 := Lib.hid (HB6.out.trans (b7.mono HB6.out.size))
      have C8 := Lib.hid (awake_any w7)
      clear b7 C7 HB6
      go_wp2_with fail
      refine C8.out.mono ?_
      rintro e w8 ⟨rfl, b8⟩
      have HB8 := Lib.hid (HB7.out.trans (b8.mono HB7.out.size))
      have c9 := sameS_any none none 0 0 0 0 [] [] w8 (Sl.nil _ _ _) (Sl.nil _ _ _) (by omega)
      have C9 := Lib.hid c9
      clear b8 C8 HB7 c9
      go_wp2_with fail
      refine C9.out.mono ?_
      rintro e w9 ⟨rfl, d, rfl⟩
      clear C9
      go_wp2
      go_ret
      exact ⟨rfl, below_drewN HB8.out _⟩
    | some ls =>
      rw [ho] at C6
      have HO := Lib.hid ho
      have C6 := Lib.hid C6
      clear ho
      go_wp2_with fail
      refine C6.out.mono ?_
      rintro e w6 ⟨A6, n6, c6, rfl, o6, -, b6⟩
      have HB6 := Lib.hid (HB3.out.trans (b6.mono HB3.out.size))
      have c7 := refSet_any w6 a1 len1 cap1 l1 (Sl.below HS3.out b6) b1 (by omega)
      rw [HO.out] at c7
      have C7 := Lib.hid c7
      have HS6 := Lib.hid (Sl.of_own o6)
      have hn6 := o6.1
      rw [spV_length] at hn6
      have hr6 := ((setR_iff okP_small l1 ls).1 HO.out).1
      have hl6 := (rightS_true.1 hr6).2
      clear b6 C6 c7 HB3 HS3 HO o6 hr6
      go_wp2_with fail
      refine C7.out.mono ?_
      rintro e w7 ⟨A7, n7, c7, rfl, o7, -, b7⟩
      have HB7 := Lib.hid (HB6.out.trans (b7.mono HB6.out.size))
      have HS7 := Lib.hid (Sl.below HS6.out b7)
      have HT7 := Lib.hid (Sl.of_own o7)
      have C8 := Lib.hid (awake_any w7)
      clear b7 C7 HB6 HS6 o7
      go_wp2_with fail
      refine C8.out.mono ?_
      rintro e w8 ⟨rfl, b8⟩
      have HB8 := Lib.hid (HB7.out.trans (b8.mono HB7.out.size))
      have c9 := sameS_any A6 A7 n6 n7 c6 c7 ls ls w8 (Sl.below HS7.out b8) (Sl.below HT7.out b8) (by omega)
      rw [show (ls == ls) = true by simp] at c9
      have C9 := Lib.hid c9
      clear b8 C8 HB7 c9 HS7 HT7 hn6 hl6
      go_wp2_with fail
      refine C9.out.mono ?_
      rintro e w9 ⟨rfl, d, rfl⟩
      clear C9
      go_wp2
      go_ret
      exact ⟨rfl, below_drewN HB8.out _⟩
  · have e1 : putSetE l0 = (setB l0, 0) := by unfold putSetE; rw [if_pos hr]
    rw [e1] at c1
    have C1 := Lib.hid c1
    have HR := Lib.hid hr
    obtain ⟨T, hT⟩ : ∃ T, setB l0 = T := ⟨_, rfl⟩
    rw [hT] at c1
    have C1 := Lib.hid c1
    have HT := Lib.hid hT
    clear c1 e1 hr hT
    go_enter Try.func8, Try.ntmps8
    go_wp2_with fail
    refine C1.out.mono ?_
    rintro e w1 ⟨A1, n1, c1, rfl, sx, hc1, -, b2, -⟩
    have HB1 := Lib.hid b2
    have c2 := refRightS_any a0 len0 cap0 l0 w1 (Sl.below HS0.out b2) (by omega)
    rw [HR.out] at c2
    have C2 := Lib.hid c2
    have HS2 := Lib.hid (Sl.below HS1.out b2)
    have HSP := Lib.hid (Sl.below HS0.out b2)
    have HX2 := Lib.hid sx
    clear C1 sx b2 c2 HS0 HS1
    go_wp2_with fail
    refine C2.out.mono ?_
    rintro e w2 ⟨rfl, b3⟩
    have HB2 := Lib.hid (HB1.out.trans (b3.mono HB1.out.size))
    have HS22 := Lib.hid (Sl.below HS2.out b3)
    have HX3 := Lib.hid (Sl.below HX2.out b3)
    have HSP3 := Lib.hid (Sl.below HSP.out b3)
    have HSS := Lib.hid (fun (W : World) (bl : Below w2.heap.size w2 W) => And.intro (bytes_conv' (Sl.below HX3.out bl) c1) bl)
    have C4 := Lib.hid (fun (W : World) (bl : Below w2.heap.size w2 W) => refPutSet_any W a0 len0 cap0 l0 (Sl.below HSP3.out bl) HR.out)
    clear C2 b3 HB1 HS2 HX2 HSP
    go_wp2_with fail
    refine wp_region_noPanic ?_
    refine wp_region_held_drew (S := (fun w' => (convert 31 9 (.slice A1 n1 c1)).run Try.prog w' = .ok (.string ⟨T.toArray⟩) w' ∧ Below w2.heap.size w2 w')) (by kernel_rfl) ?_ (fun hHeld => ?_)
    · exact HSS.out _ (Below.refl _ _).drew
    first
      | (refine wpAnyH_take (i := 0) (oi := _) (v := undef) (dropAt rfl) (by kernel_rfl) (by kernel_rfl) (by kernel_rfl) (fun _ _ _ h => h) (Or.inr ⟨by rfl, rfl⟩) (by assumption) ?_)
      | (refine wpAnyH_take (i := 0) (oi := _) (v := ?_) (dropAt rfl) (by kernel_rfl) (by kernel_rfl) (by kernel_rfl) (fun _ _ _ h => h) (Or.inl ⟨by rfl, ?_⟩) (by assumption) ?_; rotate_left; (focus (intro w2 hSw; (try dsimp only at hSw); go_simp; try with_reducible rfl)))
      | fail
    try simp only [Act.put, List.setIfInBounds_toArray, List.set_cons_zero, List.set_cons_succ]
    first
      | (refine wpAnyH_take (i := 1) (oi := _) (v := undef) (dropAt rfl) (by kernel_rfl) (by kernel_rfl) (by kernel_rfl) (fun _ _ _ h => h) (Or.inr ⟨by rfl, rfl⟩) (by assumption) ?_)
      | (refine wpAnyH_take (i := 1) (oi := _) (v := ?_) (dropAt rfl) (by kernel_rfl) (by kernel_rfl) (by kernel_rfl) (fun _ _ _ h => h) (Or.inl ⟨by rfl, ?_⟩) (by assumption) ?_; rotate_left; (focus (intro w2 hSw; (try dsimp only at hSw); go_simp; try with_reducible rfl)))
      | fail
    try simp only [Act.put, List.setIfInBounds_toArray, List.set_cons_zero, List.set_cons_succ]
    first
      | (refine wpAnyH_take (i := 2) (oi := _) (v := undef) (dropAt rfl) (by kernel_rfl) (by kernel_rfl) (by kernel_rfl) (fun _ _ _ h => h) (Or.inr ⟨by rfl, rfl⟩) (by assumption) ?_)
      | (refine wpAnyH_take (i := 2) (oi := _) (v := ?_) (dropAt rfl) (by kernel_rfl) (by kernel_rfl) (by kernel_rfl) (fun _ _ _ h => h) (Or.inl ⟨by rfl, ?_⟩) (by assumption) ?_; rotate_left; (focus (intro w2 hSw; (try dsimp only at hSw); go_simp; try with_reducible rfl)))
      | fail
    try simp only [Act.put, List.setIfInBounds_toArray, List.set_cons_zero, List.set_cons_succ]
    first
      | (refine wpAnyH_take (i := 3) (oi := _) (v := undef) (dropAt rfl) (by kernel_rfl) (by kernel_rfl) (by kernel_rfl) (fun _ _ _ h => h) (Or.inr ⟨by rfl, rfl⟩) (by assumption) ?_)
      | (refine wpAnyH_take (i := 3) (oi := _) (v := ?_) (dropAt rfl) (by kernel_rfl) (by kernel_rfl) (by kernel_rfl) (fun _ _ _ h => h) (Or.inl ⟨by rfl, ?_⟩) (by assumption) ?_; rotate_left; (focus (intro w2 hSw; (try dsimp only at hSw); go_simp; try with_reducible rfl)))
      | fail
    try simp only [Act.put, List.setIfInBounds_toArray, List.set_cons_zero, List.set_cons_succ]
    first
      | (refine wpAnyH_take (i := 4) (oi := _) (v := undef) (dropAt rfl) (by kernel_rfl) (by kernel_rfl) (by kernel_rfl) (fun _ _ _ h => h) (Or.inr ⟨by rfl, rfl⟩) (by assumption) ?_)
      | (refine wpAnyH_take (i := 4) (oi := _) (v := ?_) (dropAt rfl) (by kernel_rfl) (by kernel_rfl) (by kernel_rfl) (fun _ _ _ h => h) (Or.inl ⟨by rfl, ?_⟩) (by assumption) ?_; rotate_left; (focus (intro w2 hSw; (try dsimp only at hSw); go_simp; try with_reducible rfl)))
      | fail
    try simp only [Act.put, List.setIfInBounds_toArray, List.set_cons_zero, List.set_cons_succ]
    first
      | (refine wpAnyH_take (i := 5) (oi := _) (v := undef) (dropAt rfl) (by kernel_rfl) (by kernel_rfl) (by kernel_rfl) (fun _ _ _ h => h) (Or.inr ⟨by rfl, rfl⟩) (by assumption) ?_)
      | (refine wpAnyH_take (i := 5) (oi := _) (v := ?_) (dropAt rfl) (by kernel_rfl) (by kernel_rfl) (by kernel_rfl) (fun _ _ _ h => h) (Or.inl ⟨by rfl, ?_⟩) (by assumption) ?_; rotate_left; (focus (intro w2 hSw; (try dsimp only at hSw); go_simp; try with_reducible rfl)))
      | fail
    try simp only [Act.put, List.setIfInBounds_toArray, List.set_cons_zero, List.set_cons_succ]
    refine wpAnyH_ready (rs := [6]) (by kernel_rfl) (by simp) ?_
    refine AllReadyH.cons (o := _) (dropAt rfl) (fun K hK => ?_) AllReadyH.nil
    go_simp
    (go_at_call 20; refine (C4.out _ hHeld.2).mono ?_; intro e w4 h4; obtain ⟨A4, n4, c4, rfl, s4, -, -, b4, -⟩ := h4.read)
    refine hK.out _ _ ?_ (fun hHeld => ?_)
    · exact HSS.out _ (hHeld.2.trans (b4.mono hHeld.2.size))
    clear hK K
    try simp only [Act.put, List.setIfInBounds_toArray, List.set_cons_zero, List.set_cons_succ]
    rw [HT.out] at s4
    have e4 := bytes_conv' s4 c4
    have HH4 := Lib.hid hHeld.2
    clear s4 b4
    refine wpAnyH_ready (rs := [7]) (by kernel_rfl) (by simp) ?_
    refine AllReadyH.cons (o := _) (dropAt rfl) (fun K hK => ?_) AllReadyH.nil
    go_simp
    refine hK.out _ _ ?_ (fun hHeld => ?_)
    · exact HSS.out _ HH4.out
    clear hK K
    try simp only [Act.put, List.setIfInBounds_toArray, List.set_cons_zero, List.set_cons_succ]
    first
      | (refine wpAnyH_take (i := 8) (oi := _) (v := undef) (dropAt rfl) (by kernel_rfl) (by kernel_rfl) (by kernel_rfl) (fun _ _ _ h => h) (Or.inr ⟨by rfl, rfl⟩) (by assumption) ?_)
      | (refine wpAnyH_take (i := 8) (oi := _) (v := ?_) (dropAt rfl) (by kernel_rfl) (by kernel_rfl) (by kernel_rfl) (fun _ _ _ h => h) (Or.inl ⟨by rfl, ?_⟩) (by assumption) ?_; rotate_left; (focus (intro w2 hSw; (try dsimp only at hSw); go_simp; try with_reducible rfl)))
      | fail
    try simp only [Act.put, List.setIfInBounds_toArray, List.set_cons_zero, List.set_cons_succ]
    first
      | (refine wpAnyH_take (i := 9) (oi := _) (v := undef) (dropAt rfl) (by kernel_rfl) (by kernel_rfl) (by kernel_rfl) (fun _ _ _ h => h) (Or.inr ⟨by rfl, rfl⟩) (by assumption) ?_)
      | (refine wpAnyH_take (i := 9) (oi := _) (v := ?_) (dropAt rfl) (by kernel_rfl) (by kernel_rfl) (by kernel_rfl) (fun _ _ _ h => h) (Or.inl ⟨by rfl, ?_⟩) (by assumption) ?_; rotate_left; (focus (intro w2 hSw; (try dsimp only at hSw); go_simp; try with_reducible rfl)))
      | fail
    try simp only [Act.put, List.setIfInBounds_toArray, List.set_cons_zero, List.set_cons_succ]
    refine wpAnyH_done (by kernel_rfl) ?_ _
    refine NoPanic.normal ?_
    have HB3 := Lib.hid (HB2.out.trans (HH4.out.mono HB2.out.size))
    have HS3 := Lib.hid (Sl.below HS22.out HH4.out)
    clear hHeld e4 C4 HSS HX3 HSP3 HS22 HB2
    have C6 := set_any _ a1 len1 cap1 l1 HS3.out b1 (by omega)
    cases ho : setR okP l1 with
    | none =>
      rw [ho] at C6
      have HO := Lib.hid ho
      have C6 := Lib.hid C6
      clear ho
      go_wp2_with fail
      refine C6.out.mono ?_
      rintro e w6 ⟨rfl, b6⟩
      have HB6 := Lib.hid (HB3.out.trans (b6.mono HB3.out.size))
      have c7 := refSet_any w6 a1 len1 cap1 l1 (Sl.below HS3.out b6) b1 (by omega)
      rw [HO.out] at c7
      have C7 := Lib.hid c7
      clear b6 C6 c7 HB3 HS3 HO
      go_wp2_with fail
      refine C7.out.mono ?_
      rintro e w7 ⟨rfl, b7⟩
      have HB7 := Lib.hid (HB6.out.trans (b7.mono HB6.out.size))
      have C8 := Lib.hid (awake_any w7)
      clear b7 C7 HB6
      go_wp2_with fail
      refine C8.out.mono ?_
      rintro e w8 ⟨rfl, b8⟩
      have HB8 := Lib.hid (HB7.out.trans (b8.mono HB7.out.size))
      have c9 := sameS_any none none 0 0 0 0 [] [] w8 (Sl.nil _ _ _) (Sl.nil _ _ _) (by omega)
      have C9 := Lib.hid c9
      clear b8 C8 HB7 c9
      go_wp2_with fail
      refine C9.out.mono ?_
      rintro e w9 ⟨rfl, d, rfl⟩
      clear C9
      go_wp2
      go_ret
      exact ⟨rfl, below_drewN HB8.out _⟩
    | some ls =>
      rw [ho] at C6
      have HO := Lib.hid ho
      have C6 := Lib.hid C6
      clear ho
      go_wp2_with fail
      refine C6.out.mono ?_
      rintro e w6 ⟨A6, n6, c6, rfl, o6, -, b6⟩
      have HB6 := Lib.hid (HB3.out.trans (b6.mono HB3.out.size))
      have c7 := refSet_any w6 a1 len1 cap1 l1 (Sl.below HS3.out b6) b1 (by omega)
      rw [HO.out] at c7
      have C7 := Lib.hid c7
      have HS6 := Lib.hid (Sl.of_own o6)
      have hn6 := o6.1
      rw [spV_length] at hn6
      have hr6 := ((setR_iff okP_small l1 ls).1 HO.out).1
      have hl6 := (rightS_true.1 hr6).2
      clear b6 C6 c7 HB3 HS3 HO o6 hr6
      go_wp2_with fail
      refine C7.out.mono ?_
      rintro e w7 ⟨A7, n7, c7, rfl, o7, -, b7⟩
      have HB7 := Lib.hid (HB6.out.trans (b7.mono HB6.out.size))
      have HS7 := Lib.hid (Sl.below HS6.out b7)
      have HT7 := Lib.hid (Sl.of_own o7)
      have C8 := Lib.hid (awake_any w7)
      clear b7 C7 HB6 HS6 o7
      go_wp2_with fail
      refine C8.out.mono ?_
      rintro e w8 ⟨rfl, b8⟩
      have HB8 := Lib.hid (HB7.out.trans (b8.mono HB7.out.size))
      have c9 := sameS_any A6 A7 n6 n7 c6 c7 ls ls w8 (Sl.below HS7.out b8) (Sl.below HT7.out b8) (by omega)
      rw [show (ls == ls) = true by simp] at c9
      have C9 := Lib.hid c9
      clear b8 C8 HB7 c9 HS7 HT7 hn6 hl6
      go_wp2_with fail
      refine C9.out.mono ?_
      rintro e w9 ⟨rfl, d, rfl⟩
      clear C9
      go_wp2
      go_ret
      exact ⟨rfl, below_drewN HB8.out _⟩
end Go.Proofs.Ytgnedaihchmoaaa
