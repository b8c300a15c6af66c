/-
  firthlaw06.CodeRecs.
-/
import Derived.Test.YtgnedaihchmoaaaCodeLaws
import Derived.Test.YtgnedaihchmoaaaCodeRefRecTop
import Derived.Test.YtgnedaihchmoaaaCodeRefRec
import Derived.Test.YtgnedaihchmoaaaCodeShape
namespace Go.Proofs.Ytgnedaihchmoaaa
open Go.RowKit
set_option linter.unusedVariables false

theorem conv6 {w : World} {A : Option Addr} {n : Nat} {l : List UInt8} (h : SlB w A n l) (c : Nat) : (convert 31 9 (.slice A n c)).run Try.prog w = .ok (.string ⟨l.toArray⟩) w :=
  run_convert_SlB (P := Try.prog) h 31 5 9 Try.underlying31 Try.underlying5 Try.underlying9 c
theorem slr_one {w : World} {x : Rc} {A : Option Addr} {n c g : Nat} (hg : w.heap[g]? = some (.cells #[.string x.key, .slice A n c] 48 (0, 0))) (hr : RRow w x A n c) : SlR w (some ⟨g, 0, none⟩) 1 [x] := by
  refine ⟨[(x, A, n, c)], rfl, ⟨rfl, fun _ => ⟨g, 0, rfl, fun j u hj => ?_⟩⟩, fun y hy => by rw [List.mem_singleton.1 hy]; exact hr⟩
  rw [Nat.zero_add, cell_of_row w g j _ _ (0, 0) hg]
  match j, hj with
  | 0, hj => simpa [rV1, rV] using hj
  | 1, hj => simpa [rV1, rV] using hj
theorem rrow_nil (w : World) : RRow w ⟨⟨#[]⟩, []⟩ none 0 0 := ⟨SlV.nil _ _, Nat.le_refl _, by omega, by decide⟩
set_option maxHeartbeats 8000000 in
set_option maxRecDepth 100000 in
theorem codeRecs_in (x : Rc) (Ar : Option Addr) (nr cr : Nat) (a1 : Option Addr) (len1 cap1 : Nat) (l1 : List UInt8) (W : World) (hv : RRow W x Ar nr cr) (s1 : SlB W a1 len1 l1) (b1 : len1 ≤ cap1) (z1 : cap1 ≤ 1048576) :
    Calls Try.prog 9 #[.agg #[.string x.key, .slice Ar nr cr], .slice a1 len1 cap1] W (BoolE W true) := by
  obtain ⟨key, vers⟩ := x
  have bA : Below W.heap.size W (W.alloc (.cells #[.string key, .slice Ar nr cr] 48)) := (Below.refl _ _).alloc (Nat.le_refl _) _
  have hb := heap_alloc_new W (.cells #[.string key, .slice Ar nr cr] 48)
  have g0 := row_cell (j := 0) hb rfl
  have g1 := row_cell (j := 1) hb rfl
  have c1 := putRec_any _ ⟨key, vers⟩ Ar nr cr (hv.below bA)
  simp only at c1 ⊢
  have HX0 := Lib.hid hb
  have HA := Lib.hid bA
  have HRA := Lib.hid (hv.below bA)
  have HSA := Lib.hid (Sl.below s1 bA)
  clear hb bA s1 hv
  cases hr : rightR ⟨key, vers⟩
  · have e1 : putRecE ⟨key, vers⟩ = ([], 1) := by unfold putRecE; rw [hr]; rfl
    rw [e1] at c1
    have C1 := Lib.hid c1
    have HR := Lib.hid hr
    clear c1 e1 hr
    go_enter Try.func9, Try.ntmps9
    go_wp2_with fail
    refine C1.out.mono ?_
    rintro e w1 ⟨A1, n1, c1, rfl, sx, hc1, -, b2, -⟩
    have hn1 : n1 = 0 := by have := sx.len; simp at this; omega
    subst hn1
    have c2 := refRightRec_any ⟨key, vers⟩ Ar nr cr w1 (HRA.out.below b2)
    rw [HR.out] at c2
    have C2 := Lib.hid c2
    have HB1 := Lib.hid b2
    have HX1 := Lib.hid ((b2.block _ (lt_of_block HX0.out)).trans HX0.out)
    have g0 := row_cell (j := 0) HX1.out rfl
    have g1 := row_cell (j := 1) HX1.out rfl
    clear C1 sx b2 c2 HR
    go_wp2_with fail
    refine C2.out.mono ?_
    rintro e w2 ⟨rfl, b3⟩
    have bq := HB1.out.trans (b3.mono HB1.out.size)
    have HX := Lib.hid ((b3.block _ (lt_of_block HX1.out)).trans HX1.out)
    have HB3 := Lib.hid (HA.out.trans (bq.mono HA.out.size))
    have HRR2 := Lib.hid (HRA.out.below bq)
    have HS3 := Lib.hid (Sl.below HSA.out bq)
    clear C2 b3 HB1 bq HA HRA HSA HX0 HX1 g0 g1
    -- HX : the record's block in w2, HB3 : Below W .. w2, HRR2, HS3
    have C4 := rec_any w2 a1 len1 cap1 l1 HS3.out b1 (by omega)
    cases ho : recR okP l1 with
    | none =>
      rw [ho] at C4
      have HO := Lib.hid ho
      have C4 := Lib.hid C4
      clear ho
      go_wp2_with fail
      refine C4.out.mono ?_
      rintro e w4 ⟨rfl, b4⟩
      have bY : Below w4.heap.size w4 (w4.alloc (.cells #[.string ⟨#[]⟩, .slice none 0 0] 48)) := (Below.refl _ _).alloc (Nat.le_refl _) _
      have b4Y := b4.trans (bY.mono b4.size)
      have hY := heap_alloc_new w4 (.cells #[.string ⟨#[]⟩, .slice none 0 0] 48)
      have c5 := refRecTop_any (w4.alloc (.cells #[.string ⟨#[]⟩, .slice none 0 0] 48)) a1 len1 cap1 l1 (Sl.below HS3.out b4Y) b1 (by omega)
      rw [HO.out] at c5
      have C5 := Lib.hid c5
      have HYB := Lib.hid (And.intro b4Y hY)
      clear c5 bY b4Y hY b4 C4
      go_wp2_with fail
      refine C5.out.mono ?_
      rintro e w5 ⟨rfl, b5⟩
      have bZ : Below w5.heap.size w5 (w5.alloc (.cells #[.string ⟨#[]⟩, .slice none 0 0] 48)) := (Below.refl _ _).alloc (Nat.le_refl _) _
      have hZ := heap_alloc_new w5 (.cells #[.string ⟨#[]⟩, .slice none 0 0] 48)
      have bq := (HYB.out.1.trans (b5.mono HYB.out.1.size)).trans (bZ.mono (HYB.out.1.trans (b5.mono HYB.out.1.size)).size)
      have hXY := (bZ.block _ (lt_of_block ((b5.block _ (lt_of_block HYB.out.2)).trans HYB.out.2))).trans ((b5.block _ (lt_of_block HYB.out.2)).trans HYB.out.2)
      obtain ⟨w3, hw3⟩ : ∃ w3, w5.alloc (.cells #[.string ⟨#[]⟩, .slice none 0 0] 48) = w3 := ⟨_, rfl⟩
      rw [hw3] at hZ bq hXY
      have HXR := Lib.hid ((bq.block _ (lt_of_block HX.out)).trans HX.out)
      have HXY := Lib.hid hXY
      have HXZ := Lib.hid hZ
      have HRR := Lib.hid (HRR2.out.below bq)
      have HB4 := Lib.hid (HB3.out.trans (bq.mono HB3.out.size))
      have HRY := Lib.hid (rrow_nil w3)
      have HRZ := Lib.hid (rrow_nil w3)
      have HW3 := Lib.hid hw3
      clear hw3 bZ hZ bq b5 C5 HYB HX HB3 HS3 HRR2 HO hXY
      have HSS := Lib.hid (fun (W' : World) (bl : Below w3.heap.size w3 W') => And.intro ((bl.cell (p := ⟨W.heap.size, 0, none⟩) (lt_of_block HXR.out)).trans (row_cell (j := 0) HXR.out rfl)) (And.intro ((bl.cell (p := ⟨W.heap.size, 1, none⟩) (lt_of_block HXR.out)).trans (row_cell (j := 1) HXR.out rfl)) (And.intro ((bl.cell (p := ⟨w4.heap.size, 0, none⟩) (lt_of_block HXY.out)).trans (row_cell (j := 0) HXY.out rfl)) (And.intro ((bl.cell (p := ⟨w4.heap.size, 1, none⟩) (lt_of_block HXY.out)).trans (row_cell (j := 1) HXY.out rfl)) (And.intro ((bl.cell (p := ⟨w5.heap.size, 0, none⟩) (lt_of_block HXZ.out)).trans (row_cell (j := 0) HXZ.out rfl)) (And.intro ((bl.cell (p := ⟨w5.heap.size, 1, none⟩) (lt_of_block HXZ.out)).trans (row_cell (j := 1) HXZ.out rfl)) bl))))))
      go_wp2_with fail
      rw [HW3.out]
      refine wp_region_noPanic ?_
      refine wp_region_held_drew (S := (fun w' => w'.cell? ⟨W.heap.size, 0, none⟩ = some (.string key) ∧ w'.cell? ⟨W.heap.size, 1, none⟩ = some (.slice Ar nr cr) ∧ w'.cell? ⟨w4.heap.size, 0, none⟩ = some (.string ⟨#[]⟩) ∧ w'.cell? ⟨w4.heap.size, 1, none⟩ = some (.slice none 0 0) ∧ w'.cell? ⟨w5.heap.size, 0, none⟩ = some (.string ⟨#[]⟩) ∧ w'.cell? ⟨w5.heap.size, 1, none⟩ = some (.slice none 0 0) ∧ Below w3.heap.size w3 w')) (by kernel_rfl) ?_ (fun hHeld => ?_)
      · exact HSS.out _ (Below.refl _ _).drew
      refine wpAnyH_ready (rs := [0]) (by kernel_rfl) (by simp) ?_
      refine AllReadyH.cons (o := _) (dropAt rfl) (fun K hK => ?_) AllReadyH.nil
      go_simp
      (go_at_call 12; refine (awake_any _).mono ?_; rintro e w7 ⟨rfl, b7⟩)
      refine hK.out _ _ ?_ (fun hHeld => ?_)
      · exact HSS.out _ ((Below.refl _ _).drew.trans (b7.mono (by simp)))
      clear hK K
      try simp only [Act.put, List.setIfInBounds_toArray, List.set_cons_zero, List.set_cons_succ]
      first
        | (refine wpAnyH_take (i := 1) (oi := _) (v := undef) (dropAt rfl) (by kernel_rfl) (by kernel_rfl) (by kernel_rfl) (fun _ _ _ h => h) (Or.inr ⟨by rfl, rfl⟩) (by assumption) ?_)
        | (refine wpAnyH_take (i := 1) (oi := _) (v := ?_) (dropAt rfl) (by kernel_rfl) (by kernel_rfl) (by kernel_rfl) (fun _ _ _ h => h) (Or.inl ⟨by rfl, ?_⟩) (by assumption) ?_; rotate_left; (focus (intro w2 hSw; (try dsimp only at hSw); go_simp; try with_reducible rfl)))
        | fail
      try simp only [Act.put, List.setIfInBounds_toArray, List.set_cons_zero, List.set_cons_succ]
      first
        | (refine wpAnyH_take (i := 2) (oi := _) (v := undef) (dropAt rfl) (by kernel_rfl) (by kernel_rfl) (by kernel_rfl) (fun _ _ _ h => h) (Or.inr ⟨by rfl, rfl⟩) (by assumption) ?_)
        | (refine wpAnyH_take (i := 2) (oi := _) (v := ?_) (dropAt rfl) (by kernel_rfl) (by kernel_rfl) (by kernel_rfl) (fun _ _ _ h => h) (Or.inl ⟨by rfl, ?_⟩) (by assumption) ?_; rotate_left; (focus (intro w2 hSw; (try dsimp only at hSw); go_simp; try with_reducible rfl)))
        | fail
      try simp only [Act.put, List.setIfInBounds_toArray, List.set_cons_zero, List.set_cons_succ]
      first
        | (refine wpAnyH_take (i := 4) (oi := _) (v := undef) (dropAt rfl) (by kernel_rfl) (by kernel_rfl) (by kernel_rfl) (fun _ _ _ h => h) (Or.inr ⟨by rfl, rfl⟩) (by assumption) ?_)
        | (refine wpAnyH_take (i := 4) (oi := _) (v := ?_) (dropAt rfl) (by kernel_rfl) (by kernel_rfl) (by kernel_rfl) (fun _ _ _ h => h) (Or.inl ⟨by rfl, ?_⟩) (by assumption) ?_; rotate_left; (focus (intro w2 hSw; (try dsimp only at hSw); go_simp; try with_reducible rfl)))
        | fail
      try simp only [Act.put, List.setIfInBounds_toArray, List.set_cons_zero, List.set_cons_succ]
      have HHA := Lib.hid hHeld.2.2.2.2.2.2
      refine wpAnyH_ready (rs := [3]) (by kernel_rfl) (by simp) ?_
      refine AllReadyH.cons (o := _) (dropAt rfl) (fun K hK => ?_) AllReadyH.nil
      go_simp
      (go_at_call 29; refine (rightRec_any ⟨key, vers⟩ Ar nr cr _ (HRR.out.below HHA.out)).mono ?_; rintro e w8 ⟨rfl, b8⟩)
      refine hK.out _ _ ?_ (fun hHeld => ?_)
      · exact HSS.out _ (HHA.out.trans (b8.mono HHA.out.size))
      clear hK K
      try simp only [Act.put, List.setIfInBounds_toArray, List.set_cons_zero, List.set_cons_succ]
      have HHB := Lib.hid (HHA.out.trans (b8.mono HHA.out.size))
      clear b8
      refine wpAnyH_ready (rs := [5]) (by kernel_rfl) (by simp) ?_
      refine AllReadyH.cons (o := _) (dropAt rfl) (fun K hK => ?_) AllReadyH.nil
      go_simp
      (go_at_call 25; refine (refRightRec_any ⟨key, vers⟩ Ar nr cr _ (HRR.out.below HHB.out)).mono ?_; rintro e w9 ⟨rfl, b9⟩)
      refine hK.out _ _ ?_ (fun hHeld => ?_)
      · exact HSS.out _ (HHB.out.trans (b9.mono HHB.out.size))
      clear hK K
      try simp only [Act.put, List.setIfInBounds_toArray, List.set_cons_zero, List.set_cons_succ]
      clear b9
      first
        | (refine wpAnyH_take (i := 6) (oi := _) (v := undef) (dropAt rfl) (by kernel_rfl) (by kernel_rfl) (by kernel_rfl) (fun _ _ _ h => h) (Or.inr ⟨by rfl, rfl⟩) (by assumption) ?_)
        | (refine wpAnyH_take (i := 6) (oi := _) (v := ?_) (dropAt rfl) (by kernel_rfl) (by kernel_rfl) (by kernel_rfl) (fun _ _ _ h => h) (Or.inl ⟨by rfl, ?_⟩) (by assumption) ?_; rotate_left; (focus (intro w2 hSw; (try dsimp only at hSw); go_simp; try with_reducible rfl)))
        | fail
      try simp only [Act.put, List.setIfInBounds_toArray, List.set_cons_zero, List.set_cons_succ]
      first
        | (refine wpAnyH_take (i := 7) (oi := _) (v := undef) (dropAt rfl) (by kernel_rfl) (by kernel_rfl) (by kernel_rfl) (fun _ _ _ h => h) (Or.inr ⟨by rfl, rfl⟩) (by assumption) ?_)
        | (refine wpAnyH_take (i := 7) (oi := _) (v := ?_) (dropAt rfl) (by kernel_rfl) (by kernel_rfl) (by kernel_rfl) (fun _ _ _ h => h) (Or.inl ⟨by rfl, ?_⟩) (by assumption) ?_; rotate_left; (focus (intro w2 hSw; (try dsimp only at hSw); go_simp; try with_reducible rfl)))
        | fail
      try simp only [Act.put, List.setIfInBounds_toArray, List.set_cons_zero, List.set_cons_succ]
      first
        | (refine wpAnyH_take (i := 8) (oi := _) (v := undef) (dropAt rfl) (by kernel_rfl) (by kernel_rfl) (by kernel_rfl) (fun _ _ _ h => h) (Or.inr ⟨by rfl, rfl⟩) (by assumption) ?_)
        | (refine wpAnyH_take (i := 8) (oi := _) (v := ?_) (dropAt rfl) (by kernel_rfl) (by kernel_rfl) (by kernel_rfl) (fun _ _ _ h => h) (Or.inl ⟨by rfl, ?_⟩) (by assumption) ?_; rotate_left; (focus (intro w2 hSw; (try dsimp only at hSw); go_simp; try with_reducible rfl)))
        | fail
      try simp only [Act.put, List.setIfInBounds_toArray, List.set_cons_zero, List.set_cons_succ]
      first
        | (refine wpAnyH_take (i := 9) (oi := _) (v := undef) (dropAt rfl) (by kernel_rfl) (by kernel_rfl) (by kernel_rfl) (fun _ _ _ h => h) (Or.inr ⟨by rfl, rfl⟩) (by assumption) ?_)
        | (refine wpAnyH_take (i := 9) (oi := _) (v := ?_) (dropAt rfl) (by kernel_rfl) (by kernel_rfl) (by kernel_rfl) (fun _ _ _ h => h) (Or.inl ⟨by rfl, ?_⟩) (by assumption) ?_; rotate_left; (focus (intro w2 hSw; (try dsimp only at hSw); go_simp; try with_reducible rfl)))
        | fail
      try simp only [Act.put, List.setIfInBounds_toArray, List.set_cons_zero, List.set_cons_succ]
      first
        | (refine wpAnyH_take (i := 11) (oi := _) (v := undef) (dropAt rfl) (by kernel_rfl) (by kernel_rfl) (by kernel_rfl) (fun _ _ _ h => h) (Or.inr ⟨by rfl, rfl⟩) (by assumption) ?_)
        | (refine wpAnyH_take (i := 11) (oi := _) (v := ?_) (dropAt rfl) (by kernel_rfl) (by kernel_rfl) (by kernel_rfl) (fun _ _ _ h => h) (Or.inl ⟨by rfl, ?_⟩) (by assumption) ?_; rotate_left; (focus (intro w2 hSw; (try dsimp only at hSw); go_simp; try with_reducible rfl)))
        | fail
      try simp only [Act.put, List.setIfInBounds_toArray, List.set_cons_zero, List.set_cons_succ]
      have HHH := Lib.hid hHeld.2.2.2.2.2.2
      refine wpAnyH_ready (rs := [10, 12]) (by kernel_rfl) (by simp) ?_
      refine AllReadyH.cons (o := _) (dropAt rfl) (fun K hK => ?_) (AllReadyH.cons (o := _) (dropAt rfl) (fun K hK => ?_) AllReadyH.nil)
      · go_simp
        skip
        refine hK.out _ _ ?_ (fun hHeld9 => ?_)
        · exact HSS.out _ (HHH.out.alloc HHH.out.size _)
        clear hK K hHeld
        have hHeld := hHeld9
        clear hHeld9
        try simp only [Act.put, List.setIfInBounds_toArray, List.set_cons_zero, List.set_cons_succ]
        refine wpAnyH_ready (rs := [12]) (by kernel_rfl) (by simp) ?_
        refine AllReadyH.cons (o := _) (dropAt rfl) (fun K hK => ?_) AllReadyH.nil
        go_simp
        refine hK.out _ _ ?_ (fun hHeld => ?_)
        · exact HSS.out _ ((HHH.out.alloc HHH.out.size _).alloc (HHH.out.alloc HHH.out.size _).size _)
        clear hK K
        try simp only [Act.put, List.setIfInBounds_toArray, List.set_cons_zero, List.set_cons_succ]
        have HL := Lib.hid (And.intro ((Below.heap_alloc (w9.alloc (.cells #[.string ⟨#[]⟩, .slice none 0 0] 48)) (.cells #[.string ⟨#[]⟩, .slice none 0 0] 48) _ (by simp)).trans (heap_alloc_new w9 (.cells #[.string ⟨#[]⟩, .slice none 0 0] 48))) (And.intro ((show ((w9.alloc (.cells #[.string ⟨#[]⟩, .slice none 0 0] 48)).alloc (.cells #[.string ⟨#[]⟩, .slice none 0 0] 48)).heap[w9.heap.size + 1]? = some (.cells #[.string ⟨#[]⟩, .slice none 0 0] 48 (0, 0)) from by have h := heap_alloc_new (w9.alloc (.cells #[.string ⟨#[]⟩, .slice none 0 0] 48)) (.cells #[.string ⟨#[]⟩, .slice none 0 0] 48); rw [show (w9.alloc (.cells #[.string ⟨#[]⟩, .slice none 0 0] 48)).heap.size = w9.heap.size + 1 by simp] at h; exact h)) ((HHH.out.alloc HHH.out.size (.cells #[.string ⟨#[]⟩, .slice none 0 0] 48)).alloc (HHH.out.alloc HHH.out.size _).size (.cells #[.string ⟨#[]⟩, .slice none 0 0] 48))))
        refine wpAnyH_ready (rs := [13]) (by kernel_rfl) (by simp) ?_
        refine AllReadyH.cons (o := _) (dropAt rfl) (fun K hK => ?_) AllReadyH.nil
        go_simp
        (go_at_call 30; refine (sameRecs_true _ _ 1 1 1 1 [⟨⟨#[]⟩, []⟩] _ (slr_one (x := ⟨⟨#[]⟩, []⟩) (A := none) (n := 0) (c := 0) HL.out.1 (HRY.out.below HL.out.2.2)) (slr_one (x := ⟨⟨#[]⟩, []⟩) (A := none) (n := 0) (c := 0) HL.out.2.1 (HRZ.out.below HL.out.2.2)) (by omega)).mono ?_; rintro e w8 ⟨rfl, b8⟩)
        refine hK.out _ _ ?_ (fun hHeld => ?_)
        · exact HSS.out _ (HL.out.2.2.trans (b8.mono HL.out.2.2.size))
        clear hK K
        try simp only [Act.put, List.setIfInBounds_toArray, List.set_cons_zero, List.set_cons_succ]
        have HB8 := Lib.hid (HB4.out.trans ((HL.out.2.2.trans (b8.mono HL.out.2.2.size)).mono HB4.out.size))
        clear b8
        first
          | (refine wpAnyH_take (i := 14) (oi := _) (v := undef) (dropAt rfl) (by kernel_rfl) (by kernel_rfl) (by kernel_rfl) (fun _ _ _ h => h) (Or.inr ⟨by rfl, rfl⟩) (by assumption) ?_)
          | (refine wpAnyH_take (i := 14) (oi := _) (v := ?_) (dropAt rfl) (by kernel_rfl) (by kernel_rfl) (by kernel_rfl) (fun _ _ _ h => h) (Or.inl ⟨by rfl, ?_⟩) (by assumption) ?_; rotate_left; (focus (intro w2 hSw; (try dsimp only at hSw); go_simp; try with_reducible rfl)))
          | fail
        try simp only [Act.put, List.setIfInBounds_toArray, List.set_cons_zero, List.set_cons_succ]
        first
          | (refine wpAnyH_take (i := 15) (oi := _) (v := undef) (dropAt rfl) (by kernel_rfl) (by kernel_rfl) (by kernel_rfl) (fun _ _ _ h => h) (Or.inr ⟨by rfl, rfl⟩) (by assumption) ?_)
          | (refine wpAnyH_take (i := 15) (oi := _) (v := ?_) (dropAt rfl) (by kernel_rfl) (by kernel_rfl) (by kernel_rfl) (fun _ _ _ h => h) (Or.inl ⟨by rfl, ?_⟩) (by assumption) ?_; rotate_left; (focus (intro w2 hSw; (try dsimp only at hSw); go_simp; try with_reducible rfl)))
          | fail
        try simp only [Act.put, List.setIfInBounds_toArray, List.set_cons_zero, List.set_cons_succ]
        first
          | (refine wpAnyH_take (i := 16) (oi := _) (v := undef) (dropAt rfl) (by kernel_rfl) (by kernel_rfl) (by kernel_rfl) (fun _ _ _ h => h) (Or.inr ⟨by rfl, rfl⟩) (by assumption) ?_)
          | (refine wpAnyH_take (i := 16) (oi := _) (v := ?_) (dropAt rfl) (by kernel_rfl) (by kernel_rfl) (by kernel_rfl) (fun _ _ _ h => h) (Or.inl ⟨by rfl, ?_⟩) (by assumption) ?_; rotate_left; (focus (intro w2 hSw; (try dsimp only at hSw); go_simp; try with_reducible rfl)))
          | fail
        try simp only [Act.put, List.setIfInBounds_toArray, List.set_cons_zero, List.set_cons_succ]
        first
          | (refine wpAnyH_take (i := 17) (oi := _) (v := undef) (dropAt rfl) (by kernel_rfl) (by kernel_rfl) (by kernel_rfl) (fun _ _ _ h => h) (Or.inr ⟨by rfl, rfl⟩) (by assumption) ?_)
          | (refine wpAnyH_take (i := 17) (oi := _) (v := ?_) (dropAt rfl) (by kernel_rfl) (by kernel_rfl) (by kernel_rfl) (fun _ _ _ h => h) (Or.inl ⟨by rfl, ?_⟩) (by assumption) ?_; rotate_left; (focus (intro w2 hSw; (try dsimp only at hSw); go_simp; try with_reducible rfl)))
          | fail
        try simp only [Act.put, List.setIfInBounds_toArray, List.set_cons_zero, List.set_cons_succ]
        first
          | (refine wpAnyH_take (i := 18) (oi := _) (v := undef) (dropAt rfl) (by kernel_rfl) (by kernel_rfl) (by kernel_rfl) (fun _ _ _ h => h) (Or.inr ⟨by rfl, rfl⟩) (by assumption) ?_)
          | (refine wpAnyH_take (i := 18) (oi := _) (v := ?_) (dropAt rfl) (by kernel_rfl) (by kernel_rfl) (by kernel_rfl) (fun _ _ _ h => h) (Or.inl ⟨by rfl, ?_⟩) (by assumption) ?_; rotate_left; (focus (intro w2 hSw; (try dsimp only at hSw); go_simp; try with_reducible rfl)))
          | fail
        try simp only [Act.put, List.setIfInBounds_toArray, List.set_cons_zero, List.set_cons_succ]
        first
          | (refine wpAnyH_take (i := 19) (oi := _) (v := undef) (dropAt rfl) (by kernel_rfl) (by kernel_rfl) (by kernel_rfl) (fun _ _ _ h => h) (Or.inr ⟨by rfl, rfl⟩) (by assumption) ?_)
          | (refine wpAnyH_take (i := 19) (oi := _) (v := ?_) (dropAt rfl) (by kernel_rfl) (by kernel_rfl) (by kernel_rfl) (fun _ _ _ h => h) (Or.inl ⟨by rfl, ?_⟩) (by assumption) ?_; rotate_left; (focus (intro w2 hSw; (try dsimp only at hSw); go_simp; try with_reducible rfl)))
          | fail
        try simp only [Act.put, List.setIfInBounds_toArray, List.set_cons_zero, List.set_cons_succ]
        first
          | (refine wpAnyH_take (i := 20) (oi := _) (v := undef) (dropAt rfl) (by kernel_rfl) (by kernel_rfl) (by kernel_rfl) (fun _ _ _ h => h) (Or.inr ⟨by rfl, rfl⟩) (by assumption) ?_)
          | (refine wpAnyH_take (i := 20) (oi := _) (v := ?_) (dropAt rfl) (by kernel_rfl) (by kernel_rfl) (by kernel_rfl) (fun _ _ _ h => h) (Or.inl ⟨by rfl, ?_⟩) (by assumption) ?_; rotate_left; (focus (intro w2 hSw; (try dsimp only at hSw); go_simp; try with_reducible rfl)))
          | fail
        try simp only [Act.put, List.setIfInBounds_toArray, List.set_cons_zero, List.set_cons_succ]
        refine wpAnyH_done (by kernel_rfl) ?_ _
        refine NoPanic.normal ?_
        clear hHeld
        go_wp2
        go_ret
        exact ⟨rfl, HB8.out⟩
      · go_simp
        skip
        refine hK.out _ _ ?_ (fun hHeld9 => ?_)
        · exact HSS.out _ (HHH.out.alloc HHH.out.size _)
        clear hK K hHeld
        have hHeld := hHeld9
        clear hHeld9
        try simp only [Act.put, List.setIfInBounds_toArray, List.set_cons_zero, List.set_cons_succ]
        refine wpAnyH_ready (rs := [10]) (by kernel_rfl) (by simp) ?_
        refine AllReadyH.cons (o := _) (dropAt rfl) (fun K hK => ?_) AllReadyH.nil
        go_simp
        refine hK.out _ _ ?_ (fun hHeld => ?_)
        · exact HSS.out _ ((HHH.out.alloc HHH.out.size _).alloc (HHH.out.alloc HHH.out.size _).size _)
        clear hK K
        try simp only [Act.put, List.setIfInBounds_toArray, List.set_cons_zero, List.set_cons_succ]
        have HL := Lib.hid (And.intro ((show ((w9.alloc (.cells #[.string ⟨#[]⟩, .slice none 0 0] 48)).alloc (.cells #[.string ⟨#[]⟩, .slice none 0 0] 48)).heap[w9.heap.size + 1]? = some (.cells #[.string ⟨#[]⟩, .slice none 0 0] 48 (0, 0)) from by have h := heap_alloc_new (w9.alloc (.cells #[.string ⟨#[]⟩, .slice none 0 0] 48)) (.cells #[.string ⟨#[]⟩, .slice none 0 0] 48); rw [show (w9.alloc (.cells #[.string ⟨#[]⟩, .slice none 0 0] 48)).heap.size = w9.heap.size + 1 by simp] at h; exact h)) (And.intro ((Below.heap_alloc (w9.alloc (.cells #[.string ⟨#[]⟩, .slice none 0 0] 48)) (.cells #[.string ⟨#[]⟩, .slice none 0 0] 48) _ (by simp)).trans (heap_alloc_new w9 (.cells #[.string ⟨#[]⟩, .slice none 0 0] 48))) ((HHH.out.alloc HHH.out.size (.cells #[.string ⟨#[]⟩, .slice none 0 0] 48)).alloc (HHH.out.alloc HHH.out.size _).size (.cells #[.string ⟨#[]⟩, .slice none 0 0] 48))))
        refine wpAnyH_ready (rs := [13]) (by kernel_rfl) (by simp) ?_
        refine AllReadyH.cons (o := _) (dropAt rfl) (fun K hK => ?_) AllReadyH.nil
        go_simp
        (go_at_call 30; refine (sameRecs_true _ _ 1 1 1 1 [⟨⟨#[]⟩, []⟩] _ (slr_one (x := ⟨⟨#[]⟩, []⟩) (A := none) (n := 0) (c := 0) HL.out.1 (HRY.out.below HL.out.2.2)) (slr_one (x := ⟨⟨#[]⟩, []⟩) (A := none) (n := 0) (c := 0) HL.out.2.1 (HRZ.out.below HL.out.2.2)) (by omega)).mono ?_; rintro e w8 ⟨rfl, b8⟩)
        refine hK.out _ _ ?_ (fun hHeld => ?_)
        · exact HSS.out _ (HL.out.2.2.trans (b8.mono HL.out.2.2.size))
        clear hK K
        try simp only [Act.put, List.setIfInBounds_toArray, List.set_cons_zero, List.set_cons_succ]
        have HB8 := Lib.hid (HB4.out.trans ((HL.out.2.2.trans (b8.mono HL.out.2.2.size)).mono HB4.out.size))
        clear b8
        first
          | (refine wpAnyH_take (i := 14) (oi := _) (v := undef) (dropAt rfl) (by kernel_rfl) (by kernel_rfl) (by kernel_rfl) (fun _ _ _ h => h) (Or.inr ⟨by rfl, rfl⟩) (by assumption) ?_)
          | (refine wpAnyH_take (i := 14) (oi := _) (v := ?_) (dropAt rfl) (by kernel_rfl) (by kernel_rfl) (by kernel_rfl) (fun _ _ _ h => h) (Or.inl ⟨by rfl, ?_⟩) (by assumption) ?_; rotate_left; (focus (intro w2 hSw; (try dsimp only at hSw); go_simp; try with_reducible rfl)))
          | fail
        try simp only [Act.put, List.setIfInBounds_toArray, List.set_cons_zero, List.set_cons_succ]
        first
          | (refine wpAnyH_take (i := 15) (oi := _) (v := undef) (dropAt rfl) (by kernel_rfl) (by kernel_rfl) (by kernel_rfl) (fun _ _ _ h => h) (Or.inr ⟨by rfl, rfl⟩) (by assumption) ?_)
          | (refine wpAnyH_take (i := 15) (oi := _) (v := ?_) (dropAt rfl) (by kernel_rfl) (by kernel_rfl) (by kernel_rfl) (fun _ _ _ h => h) (Or.inl ⟨by rfl, ?_⟩) (by assumption) ?_; rotate_left; (focus (intro w2 hSw; (try dsimp only at hSw); go_simp; try with_reducible rfl)))
          | fail
        try simp only [Act.put, List.setIfInBounds_toArray, List.set_cons_zero, List.set_cons_succ]
        first
          | (refine wpAnyH_take (i := 16) (oi := _) (v := undef) (dropAt rfl) (by kernel_rfl) (by kernel_rfl) (by kernel_rfl) (fun _ _ _ h => h) (Or.inr ⟨by rfl, rfl⟩) (by assumption) ?_)
          | (refine wpAnyH_take (i := 16) (oi := _) (v := ?_) (dropAt rfl) (by kernel_rfl) (by kernel_rfl) (by kernel_rfl) (fun _ _ _ h => h) (Or.inl ⟨by rfl, ?_⟩) (by assumption) ?_; rotate_left; (focus (intro w2 hSw; (try dsimp only at hSw); go_simp; try with_reducible rfl)))
          | fail
        try simp only [Act.put, List.setIfInBounds_toArray, List.set_cons_zero, List.set_cons_succ]
        first
          | (refine wpAnyH_take (i := 17) (oi := _) (v := undef) (dropAt rfl) (by kernel_rfl) (by kernel_rfl) (by kernel_rfl) (fun _ _ _ h => h) (Or.inr ⟨by rfl, rfl⟩) (by assumption) ?_)
          | (refine wpAnyH_take (i := 17) (oi := _) (v := ?_) (dropAt rfl) (by kernel_rfl) (by kernel_rfl) (by kernel_rfl) (fun _ _ _ h => h) (Or.inl ⟨by rfl, ?_⟩) (by assumption) ?_; rotate_left; (focus (intro w2 hSw; (try dsimp only at hSw); go_simp; try with_reducible rfl)))
          | fail
        try simp only [Act.put, List.setIfInBounds_toArray, List.set_cons_zero, List.set_cons_succ]
        first
          | (refine wpAnyH_take (i := 18) (oi := _) (v := undef) (dropAt rfl) (by kernel_rfl) (by kernel_rfl) (by kernel_rfl) (fun _ _ _ h => h) (Or.inr ⟨by rfl, rfl⟩) (by assumption) ?_)
          | (refine wpAnyH_take (i := 18) (oi := _) (v := ?_) (dropAt rfl) (by kernel_rfl) (by kernel_rfl) (by kernel_rfl) (fun _ _ _ h => h) (Or.inl ⟨by rfl, ?_⟩) (by assumption) ?_; rotate_left; (focus (intro w2 hSw; (try dsimp only at hSw); go_simp; try with_reducible rfl)))
          | fail
        try simp only [Act.put, List.setIfInBounds_toArray, List.set_cons_zero, List.set_cons_succ]
        first
          | (refine wpAnyH_take (i := 19) (oi := _) (v := undef) (dropAt rfl) (by kernel_rfl) (by kernel_rfl) (by kernel_rfl) (fun _ _ _ h => h) (Or.inr ⟨by rfl, rfl⟩) (by assumption) ?_)
          | (refine wpAnyH_take (i := 19) (oi := _) (v := ?_) (dropAt rfl) (by kernel_rfl) (by kernel_rfl) (by kernel_rfl) (fun _ _ _ h => h) (Or.inl ⟨by rfl, ?_⟩) (by assumption) ?_; rotate_left; (focus (intro w2 hSw; (try dsimp only at hSw); go_simp; try with_reducible rfl)))
          | fail
        try simp only [Act.put, List.setIfInBounds_toArray, List.set_cons_zero, List.set_cons_succ]
        first
          | (refine wpAnyH_take (i := 20) (oi := _) (v := undef) (dropAt rfl) (by kernel_rfl) (by kernel_rfl) (by kernel_rfl) (fun _ _ _ h => h) (Or.inr ⟨by rfl, rfl⟩) (by assumption) ?_)
          | (refine wpAnyH_take (i := 20) (oi := _) (v := ?_) (dropAt rfl) (by kernel_rfl) (by kernel_rfl) (by kernel_rfl) (fun _ _ _ h => h) (Or.inl ⟨by rfl, ?_⟩) (by assumption) ?_; rotate_left; (focus (intro w2 hSw; (try dsimp only at hSw); go_simp; try with_reducible rfl)))
          | fail
        try simp only [Act.put, List.setIfInBounds_toArray, List.set_cons_zero, List.set_cons_succ]
        refine wpAnyH_done (by kernel_rfl) ?_ _
        refine NoPanic.normal ?_
        clear hHeld
        go_wp2
        go_ret
        exact ⟨rfl, HB8.out⟩
    | some x1 =>
      rw [ho] at C4
      have HO := Lib.hid ho
      have C4 := Lib.hid C4
      clear ho
      go_wp2_with fail
      refine C4.out.mono ?_
      rintro e w4 ⟨v4, rfl, ⟨rows4, A4, cc4, rfl, hr4, ho4, hc4, hk4, hn4⟩, b4⟩
      obtain ⟨yk, yv⟩ := x1
      simp only at hr4 ho4 hc4 hk4 hn4
      have bY : Below w4.heap.size w4 (w4.alloc (.cells #[.string yk, .slice A4 yv.length cc4] 48)) := (Below.refl _ _).alloc (Nat.le_refl _) _
      have b4Y := b4.trans (bY.mono b4.size)
      have hY := heap_alloc_new w4 (.cells #[.string yk, .slice A4 yv.length cc4] 48)
      have c5 := refRecTop_any (w4.alloc (.cells #[.string yk, .slice A4 yv.length cc4] 48)) a1 len1 cap1 l1 (Sl.below HS3.out b4Y) b1 (by omega)
      rw [HO.out] at c5
      have C5 := Lib.hid c5
      have HYB := Lib.hid (And.intro b4Y hY)
      have HRY4 := Lib.hid ((ho4.rrow hr4 hc4 hn4 hk4).below bY)
      clear c5 bY b4Y hY b4 C4 ho4 hr4
      go_wp2_with fail
      refine C5.out.mono ?_
      rintro e w5 ⟨v5, rfl, ⟨rows5, A5, cc5, rfl, hr5, ho5, hc5, hk5, hn5⟩, b5⟩
      simp only at hr5 ho5 hc5 hk5 hn5
      have bZ : Below w5.heap.size w5 (w5.alloc (.cells #[.string yk, .slice A5 yv.length cc5] 48)) := (Below.refl _ _).alloc (Nat.le_refl _) _
      have hZ := heap_alloc_new w5 (.cells #[.string yk, .slice A5 yv.length cc5] 48)
      have bq := (HYB.out.1.trans (b5.mono HYB.out.1.size)).trans (bZ.mono (HYB.out.1.trans (b5.mono HYB.out.1.size)).size)
      have hXY := (bZ.block _ (lt_of_block ((b5.block _ (lt_of_block HYB.out.2)).trans HYB.out.2))).trans ((b5.block _ (lt_of_block HYB.out.2)).trans HYB.out.2)
      have hRY := (HRY4.out.below b5).below bZ
      have hRZ := (ho5.rrow hr5 hc5 hn5 hk5).below bZ
      obtain ⟨w3, hw3⟩ : ∃ w3, w5.alloc (.cells #[.string yk, .slice A5 yv.length cc5] 48) = w3 := ⟨_, rfl⟩
      rw [hw3] at hZ bq hXY hRY hRZ
      have HXR := Lib.hid ((bq.block _ (lt_of_block HX.out)).trans HX.out)
      have HXY := Lib.hid hXY
      have HXZ := Lib.hid hZ
      have HRR := Lib.hid (HRR2.out.below bq)
      have HB4 := Lib.hid (HB3.out.trans (bq.mono HB3.out.size))
      have HRY := Lib.hid hRY
      have HRZ := Lib.hid hRZ
      have HW3 := Lib.hid hw3
      clear hw3 bZ hZ bq b5 C5 HYB HX HB3 HS3 HRR2 HO hXY hRY hRZ ho5 hr5 HRY4 hc4 hk4 hn4 hc5 hk5 hn5
      have HSS := Lib.hid (fun (W' : World) (bl : Below w3.heap.size w3 W') => And.intro ((bl.cell (p := ⟨W.heap.size, 0, none⟩) (lt_of_block HXR.out)).trans (row_cell (j := 0) HXR.out rfl)) (And.intro ((bl.cell (p := ⟨W.heap.size, 1, none⟩) (lt_of_block HXR.out)).trans (row_cell (j := 1) HXR.out rfl)) (And.intro ((bl.cell (p := ⟨w4.heap.size, 0, none⟩) (lt_of_block HXY.out)).trans (row_cell (j := 0) HXY.out rfl)) (And.intro ((bl.cell (p := ⟨w4.heap.size, 1, none⟩) (lt_of_block HXY.out)).trans (row_cell (j := 1) HXY.out rfl)) (And.intro ((bl.cell (p := ⟨w5.heap.size, 0, none⟩) (lt_of_block HXZ.out)).trans (row_cell (j := 0) HXZ.out rfl)) (And.intro ((bl.cell (p := ⟨w5.heap.size, 1, none⟩) (lt_of_block HXZ.out)).trans (row_cell (j := 1) HXZ.out rfl)) bl))))))
      go_wp2_with fail
      rw [HW3.out]
      refine wp_region_noPanic ?_
      refine wp_region_held_drew (S := (fun w' => w'.cell? ⟨W.heap.size, 0, none⟩ = some (.string key) ∧ w'.cell? ⟨W.heap.size, 1, none⟩ = some (.slice Ar nr cr) ∧ w'.cell? ⟨w4.heap.size, 0, none⟩ = some (.string yk) ∧ w'.cell? ⟨w4.heap.size, 1, none⟩ = some (.slice A4 yv.length cc4) ∧ w'.cell? ⟨w5.heap.size, 0, none⟩ = some (.string yk) ∧ w'.cell? ⟨w5.heap.size, 1, none⟩ = some (.slice A5 yv.length cc5) ∧ Below w3.heap.size w3 w')) (by kernel_rfl) ?_ (fun hHeld => ?_)
      · exact HSS.out _ (Below.refl _ _).drew
      refine wpAnyH_ready (rs := [0]) (by kernel_rfl) (by simp) ?_
      refine AllReadyH.cons (o := _) (dropAt rfl) (fun K hK => ?_) AllReadyH.nil
      go_simp
      (go_at_call 12; refine (awake_any _).mono ?_; rintro e w7 ⟨rfl, b7⟩)
      refine hK.out _ _ ?_ (fun hHeld => ?_)
      · exact HSS.out _ ((Below.refl _ _).drew.trans (b7.mono (by simp)))
      clear hK K
      try simp only [Act.put, List.setIfInBounds_toArray, List.set_cons_zero, List.set_cons_succ]
      first
        | (refine wpAnyH_take (i := 1) (oi := _) (v := undef) (dropAt rfl) (by kernel_rfl) (by kernel_rfl) (by kernel_rfl) (fun _ _ _ h => h) (Or.inr ⟨by rfl, rfl⟩) (by assumption) ?_)
        | (refine wpAnyH_take (i := 1) (oi := _) (v := ?_) (dropAt rfl) (by kernel_rfl) (by kernel_rfl) (by kernel_rfl) (fun _ _ _ h => h) (Or.inl ⟨by rfl, ?_⟩) (by assumption) ?_; rotate_left; (focus (intro w2 hSw; (try dsimp only at hSw); go_simp; try with_reducible rfl)))
        | fail
      try simp only [Act.put, List.setIfInBounds_toArray, List.set_cons_zero, List.set_cons_succ]
      first
        | (refine wpAnyH_take (i := 2) (oi := _) (v := undef) (dropAt rfl) (by kernel_rfl) (by kernel_rfl) (by kernel_rfl) (fun _ _ _ h => h) (Or.inr ⟨by rfl, rfl⟩) (by assumption) ?_)
        | (refine wpAnyH_take (i := 2) (oi := _) (v := ?_) (dropAt rfl) (by kernel_rfl) (by kernel_rfl) (by kernel_rfl) (fun _ _ _ h => h) (Or.inl ⟨by rfl, ?_⟩) (by assumption) ?_; rotate_left; (focus (intro w2 hSw; (try dsimp only at hSw); go_simp; try with_reducible rfl)))
        | fail
      try simp only [Act.put, List.setIfInBounds_toArray, List.set_cons_zero, List.set_cons_succ]
      first
        | (refine wpAnyH_take (i := 4) (oi := _) (v := undef) (dropAt rfl) (by kernel_rfl) (by kernel_rfl) (by kernel_rfl) (fun _ _ _ h => h) (Or.inr ⟨by rfl, rfl⟩) (by assumption) ?_)
        | (refine wpAnyH_take (i := 4) (oi := _) (v := ?_) (dropAt rfl) (by kernel_rfl) (by kernel_rfl) (by kernel_rfl) (fun _ _ _ h => h) (Or.inl ⟨by rfl, ?_⟩) (by assumption) ?_; rotate_left; (focus (intro w2 hSw; (try dsimp only at hSw); go_simp; try with_reducible rfl)))
        | fail
      try simp only [Act.put, List.setIfInBounds_toArray, List.set_cons_zero, List.set_cons_succ]
      have HHA := Lib.hid hHeld.2.2.2.2.2.2
      refine wpAnyH_ready (rs := [3]) (by kernel_rfl) (by simp) ?_
      refine AllReadyH.cons (o := _) (dropAt rfl) (fun K hK => ?_) AllReadyH.nil
      go_simp
      (go_at_call 29; refine (rightRec_any ⟨key, vers⟩ Ar nr cr _ (HRR.out.below HHA.out)).mono ?_; rintro e w8 ⟨rfl, b8⟩)
      refine hK.out _ _ ?_ (fun hHeld => ?_)
      · exact HSS.out _ (HHA.out.trans (b8.mono HHA.out.size))
      clear hK K
      try simp only [Act.put, List.setIfInBounds_toArray, List.set_cons_zero, List.set_cons_succ]
      have HHB := Lib.hid (HHA.out.trans (b8.mono HHA.out.size))
      clear b8
      refine wpAnyH_ready (rs := [5]) (by kernel_rfl) (by simp) ?_
      refine AllReadyH.cons (o := _) (dropAt rfl) (fun K hK => ?_) AllReadyH.nil
      go_simp
      (go_at_call 25; refine (refRightRec_any ⟨key, vers⟩ Ar nr cr _ (HRR.out.below HHB.out)).mono ?_; rintro e w9 ⟨rfl, b9⟩)
      refine hK.out _ _ ?_ (fun hHeld => ?_)
      · exact HSS.out _ (HHB.out.trans (b9.mono HHB.out.size))
      clear hK K
      try simp only [Act.put, List.setIfInBounds_toArray, List.set_cons_zero, List.set_cons_succ]
      clear b9
      first
        | (refine wpAnyH_take (i := 6) (oi := _) (v := undef) (dropAt rfl) (by kernel_rfl) (by kernel_rfl) (by kernel_rfl) (fun _ _ _ h => h) (Or.inr ⟨by rfl, rfl⟩) (by assumption) ?_)
        | (refine wpAnyH_take (i := 6) (oi := _) (v := ?_) (dropAt rfl) (by kernel_rfl) (by kernel_rfl) (by kernel_rfl) (fun _ _ _ h => h) (Or.inl ⟨by rfl, ?_⟩) (by assumption) ?_; rotate_left; (focus (intro w2 hSw; (try dsimp only at hSw); go_simp; try with_reducible rfl)))
        | fail
      try simp only [Act.put, List.setIfInBounds_toArray, List.set_cons_zero, List.set_cons_succ]
      first
        | (refine wpAnyH_take (i := 7) (oi := _) (v := undef) (dropAt rfl) (by kernel_rfl) (by kernel_rfl) (by kernel_rfl) (fun _ _ _ h => h) (Or.inr ⟨by rfl, rfl⟩) (by assumption) ?_)
        | (refine wpAnyH_take (i := 7) (oi := _) (v := ?_) (dropAt rfl) (by kernel_rfl) (by kernel_rfl) (by kernel_rfl) (fun _ _ _ h => h) (Or.inl ⟨by rfl, ?_⟩) (by assumption) ?_; rotate_left; (focus (intro w2 hSw; (try dsimp only at hSw); go_simp; try with_reducible rfl)))
        | fail
      try simp only [Act.put, List.setIfInBounds_toArray, List.set_cons_zero, List.set_cons_succ]
      first
        | (refine wpAnyH_take (i := 8) (oi := _) (v := undef) (dropAt rfl) (by kernel_rfl) (by kernel_rfl) (by kernel_rfl) (fun _ _ _ h => h) (Or.inr ⟨by rfl, rfl⟩) (by assumption) ?_)
        | (refine wpAnyH_take (i := 8) (oi := _) (v := ?_) (dropAt rfl) (by kernel_rfl) (by kernel_rfl) (by kernel_rfl) (fun _ _ _ h => h) (Or.inl ⟨by rfl, ?_⟩) (by assumption) ?_; rotate_left; (focus (intro w2 hSw; (try dsimp only at hSw); go_simp; try with_reducible rfl)))
        | fail
      try simp only [Act.put, List.setIfInBounds_toArray, List.set_cons_zero, List.set_cons_succ]
      first
        | (refine wpAnyH_take (i := 9) (oi := _) (v := undef) (dropAt rfl) (by kernel_rfl) (by kernel_rfl) (by kernel_rfl) (fun _ _ _ h => h) (Or.inr ⟨by rfl, rfl⟩) (by assumption) ?_)
        | (refine wpAnyH_take (i := 9) (oi := _) (v := ?_) (dropAt rfl) (by kernel_rfl) (by kernel_rfl) (by kernel_rfl) (fun _ _ _ h => h) (Or.inl ⟨by rfl, ?_⟩) (by assumption) ?_; rotate_left; (focus (intro w2 hSw; (try dsimp only at hSw); go_simp; try with_reducible rfl)))
        | fail
      try simp only [Act.put, List.setIfInBounds_toArray, List.set_cons_zero, List.set_cons_succ]
      first
        | (refine wpAnyH_take (i := 11) (oi := _) (v := undef) (dropAt rfl) (by kernel_rfl) (by kernel_rfl) (by kernel_rfl) (fun _ _ _ h => h) (Or.inr ⟨by rfl, rfl⟩) (by assumption) ?_)
        | (refine wpAnyH_take (i := 11) (oi := _) (v := ?_) (dropAt rfl) (by kernel_rfl) (by kernel_rfl) (by kernel_rfl) (fun _ _ _ h => h) (Or.inl ⟨by rfl, ?_⟩) (by assumption) ?_; rotate_left; (focus (intro w2 hSw; (try dsimp only at hSw); go_simp; try with_reducible rfl)))
        | fail
      try simp only [Act.put, List.setIfInBounds_toArray, List.set_cons_zero, List.set_cons_succ]
      have HHH := Lib.hid hHeld.2.2.2.2.2.2
      refine wpAnyH_ready (rs := [10, 12]) (by kernel_rfl) (by simp) ?_
      refine AllReadyH.cons (o := _) (dropAt rfl) (fun K hK => ?_) (AllReadyH.cons (o := _) (dropAt rfl) (fun K hK => ?_) AllReadyH.nil)
      · go_simp
        skip
        refine hK.out _ _ ?_ (fun hHeld9 => ?_)
        · exact HSS.out _ (HHH.out.alloc HHH.out.size _)
        clear hK K hHeld
        have hHeld := hHeld9
        clear hHeld9
        try simp only [Act.put, List.setIfInBounds_toArray, List.set_cons_zero, List.set_cons_succ]
        refine wpAnyH_ready (rs := [12]) (by kernel_rfl) (by simp) ?_
        refine AllReadyH.cons (o := _) (dropAt rfl) (fun K hK => ?_) AllReadyH.nil
        go_simp
        refine hK.out _ _ ?_ (fun hHeld => ?_)
        · exact HSS.out _ ((HHH.out.alloc HHH.out.size _).alloc (HHH.out.alloc HHH.out.size _).size _)
        clear hK K
        try simp only [Act.put, List.setIfInBounds_toArray, List.set_cons_zero, List.set_cons_succ]
        have HL := Lib.hid (And.intro ((Below.heap_alloc (w9.alloc (.cells #[.string yk, .slice A4 yv.length cc4] 48)) (.cells #[.string yk, .slice A5 yv.length cc5] 48) _ (by simp)).trans (heap_alloc_new w9 (.cells #[.string yk, .slice A4 yv.length cc4] 48))) (And.intro ((show ((w9.alloc (.cells #[.string yk, .slice A4 yv.length cc4] 48)).alloc (.cells #[.string yk, .slice A5 yv.length cc5] 48)).heap[w9.heap.size + 1]? = some (.cells #[.string yk, .slice A5 yv.length cc5] 48 (0, 0)) from by have h := heap_alloc_new (w9.alloc (.cells #[.string yk, .slice A4 yv.length cc4] 48)) (.cells #[.string yk, .slice A5 yv.length cc5] 48); rw [show (w9.alloc (.cells #[.string yk, .slice A4 yv.length cc4] 48)).heap.size = w9.heap.size + 1 by simp] at h; exact h)) ((HHH.out.alloc HHH.out.size (.cells #[.string yk, .slice A4 yv.length cc4] 48)).alloc (HHH.out.alloc HHH.out.size _).size (.cells #[.string yk, .slice A5 yv.length cc5] 48))))
        refine wpAnyH_ready (rs := [13]) (by kernel_rfl) (by simp) ?_
        refine AllReadyH.cons (o := _) (dropAt rfl) (fun K hK => ?_) AllReadyH.nil
        go_simp
        (go_at_call 30; refine (sameRecs_true _ _ 1 1 1 1 [⟨yk, yv⟩] _ (slr_one (x := ⟨yk, yv⟩) (A := A4) (n := yv.length) (c := cc4) HL.out.1 (HRY.out.below HL.out.2.2)) (slr_one (x := ⟨yk, yv⟩) (A := A5) (n := yv.length) (c := cc5) HL.out.2.1 (HRZ.out.below HL.out.2.2)) (by omega)).mono ?_; rintro e w8 ⟨rfl, b8⟩)
        refine hK.out _ _ ?_ (fun hHeld => ?_)
        · exact HSS.out _ (HL.out.2.2.trans (b8.mono HL.out.2.2.size))
        clear hK K
        try simp only [Act.put, List.setIfInBounds_toArray, List.set_cons_zero, List.set_cons_succ]
        have HB8 := Lib.hid (HB4.out.trans ((HL.out.2.2.trans (b8.mono HL.out.2.2.size)).mono HB4.out.size))
        clear b8
        first
          | (refine wpAnyH_take (i := 14) (oi := _) (v := undef) (dropAt rfl) (by kernel_rfl) (by kernel_rfl) (by kernel_rfl) (fun _ _ _ h => h) (Or.inr ⟨by rfl, rfl⟩) (by assumption) ?_)
          | (refine wpAnyH_take (i := 14) (oi := _) (v := ?_) (dropAt rfl) (by kernel_rfl) (by kernel_rfl) (by kernel_rfl) (fun _ _ _ h => h) (Or.inl ⟨by rfl, ?_⟩) (by assumption) ?_; rotate_left; (focus (intro w2 hSw; (try dsimp only at hSw); go_simp; try with_reducible rfl)))
          | fail
        try simp only [Act.put, List.setIfInBounds_toArray, List.set_cons_zero, List.set_cons_succ]
        first
          | (refine wpAnyH_take (i := 15) (oi := _) (v := undef) (dropAt rfl) (by kernel_rfl) (by kernel_rfl) (by kernel_rfl) (fun _ _ _ h => h) (Or.inr ⟨by rfl, rfl⟩) (by assumption) ?_)
          | (refine wpAnyH_take (i := 15) (oi := _) (v := ?_) (dropAt rfl) (by kernel_rfl) (by kernel_rfl) (by kernel_rfl) (fun _ _ _ h => h) (Or.inl ⟨by rfl, ?_⟩) (by assumption) ?_; rotate_left; (focus (intro w2 hSw; (try dsimp only at hSw); go_simp; try with_reducible rfl)))
          | fail
        try simp only [Act.put, List.setIfInBounds_toArray, List.set_cons_zero, List.set_cons_succ]
        first
          | (refine wpAnyH_take (i := 16) (oi := _) (v := undef) (dropAt rfl) (by kernel_rfl) (by kernel_rfl) (by kernel_rfl) (fun _ _ _ h => h) (Or.inr ⟨by rfl, rfl⟩) (by assumption) ?_)
          | (refine wpAnyH_take (i := 16) (oi := _) (v := ?_) (dropAt rfl) (by kernel_rfl) (by kernel_rfl) (by kernel_rfl) (fun _ _ _ h => h) (Or.inl ⟨by rfl, ?_⟩) (by assumption) ?_; rotate_left; (focus (intro w2 hSw; (try dsimp only at hSw); go_simp; try with_reducible rfl)))
          | fail
        try simp only [Act.put, List.setIfInBounds_toArray, List.set_cons_zero, List.set_cons_succ]
        first
          | (refine wpAnyH_take (i := 17) (oi := _) (v := undef) (dropAt rfl) (by kernel_rfl) (by kernel_rfl) (by kernel_rfl) (fun _ _ _ h => h) (Or.inr ⟨by rfl, rfl⟩) (by assumption) ?_)
          | (refine wpAnyH_take (i := 17) (oi := _) (v := ?_) (dropAt rfl) (by kernel_rfl) (by kernel_rfl) (by kernel_rfl) (fun _ _ _ h => h) (Or.inl ⟨by rfl, ?_⟩) (by assumption) ?_; rotate_left; (focus (intro w2 hSw; (try dsimp only at hSw); go_simp; try with_reducible rfl)))
          | fail
        try simp only [Act.put, List.setIfInBounds_toArray, List.set_cons_zero, List.set_cons_succ]
        first
          | (refine wpAnyH_take (i := 18) (oi := _) (v := undef) (dropAt rfl) (by kernel_rfl) (by kernel_rfl) (by kernel_rfl) (fun _ _ _ h => h) (Or.inr ⟨by rfl, rfl⟩) (by assumption) ?_)
          | (refine wpAnyH_take (i := 18) (oi := _) (v := ?_) (dropAt rfl) (by kernel_rfl) (by kernel_rfl) (by kernel_rfl) (fun _ _ _ h => h) (Or.inl ⟨by rfl, ?_⟩) (by assumption) ?_; rotate_left; (focus (intro w2 hSw; (try dsimp only at hSw); go_simp; try with_reducible rfl)))
          | fail
        try simp only [Act.put, List.setIfInBounds_toArray, List.set_cons_zero, List.set_cons_succ]
        first
          | (refine wpAnyH_take (i := 19) (oi := _) (v := undef) (dropAt rfl) (by kernel_rfl) (by kernel_rfl) (by kernel_rfl) (fun _ _ _ h => h) (Or.inr ⟨by rfl, rfl⟩) (by assumption) ?_)
          | (refine wpAnyH_take (i := 19) (oi := _) (v := ?_) (dropAt rfl) (by kernel_rfl) (by kernel_rfl) (by kernel_rfl) (fun _ _ _ h => h) (Or.inl ⟨by rfl, ?_⟩) (by assumption) ?_; rotate_left; (focus (intro w2 hSw; (try dsimp only at hSw); go_simp; try with_reducible rfl)))
          | fail
        try simp only [Act.put, List.setIfInBounds_toArray, List.set_cons_zero, List.set_cons_succ]
        first
          | (refine wpAnyH_take (i := 20) (oi := _) (v := undef) (dropAt rfl) (by kernel_rfl) (by kernel_rfl) (by kernel_rfl) (fun _ _ _ h => h) (Or.inr ⟨by rfl, rfl⟩) (by assumption) ?_)
          | (refine wpAnyH_take (i := 20) (oi := _) (v := ?_) (dropAt rfl) (by kernel_rfl) (by kernel_rfl) (by kernel_rfl) (fun _ _ _ h => h) (Or.inl ⟨by rfl, ?_⟩) (by assumption) ?_; rotate_left; (focus (intro w2 hSw; (try dsimp only at hSw); go_simp; try with_reducible rfl)))
          | fail
        try simp only [Act.put, List.setIfInBounds_toArray, List.set_cons_zero, List.set_cons_succ]
        refine wpAnyH_done (by kernel_rfl) ?_ _
        refine NoPanic.normal ?_
        clear hHeld
        go_wp2
        go_ret
        exact ⟨rfl, HB8.out⟩
      · go_simp
        skip
        refine hK.out _ _ ?_ (fun hHeld9 => ?_)
        · exact HSS.out _ (HHH.out.alloc HHH.out.size _)
        clear hK K hHeld
        have hHeld := hHeld9
        clear hHeld9
        try simp only [Act.put, List.setIfInBounds_toArray, List.set_cons_zero, List.set_cons_succ]
        refine wpAnyH_ready (rs := [10]) (by kernel_rfl) (by simp) ?_
        refine AllReadyH.cons (o := _) (dropAt rfl) (fun K hK => ?_) AllReadyH.nil
        go_simp
        refine hK.out _ _ ?_ (fun hHeld => ?_)
        · exact HSS.out _ ((HHH.out.alloc HHH.out.size _).alloc (HHH.out.alloc HHH.out.size _).size _)
        clear hK K
        try simp only [Act.put, List.setIfInBounds_toArray, List.set_cons_zero, List.set_cons_succ]
        have HL := Lib.hid (And.intro ((show ((w9.alloc (.cells #[.string yk, .slice A5 yv.length cc5] 48)).alloc (.cells #[.string yk, .slice A4 yv.length cc4] 48)).heap[w9.heap.size + 1]? = some (.cells #[.string yk, .slice A4 yv.length cc4] 48 (0, 0)) from by have h := heap_alloc_new (w9.alloc (.cells #[.string yk, .slice A5 yv.length cc5] 48)) (.cells #[.string yk, .slice A4 yv.length cc4] 48); rw [show (w9.alloc (.cells #[.string yk, .slice A5 yv.length cc5] 48)).heap.size = w9.heap.size + 1 by simp] at h; exact h)) (And.intro ((Below.heap_alloc (w9.alloc (.cells #[.string yk, .slice A5 yv.length cc5] 48)) (.cells #[.string yk, .slice A4 yv.length cc4] 48) _ (by simp)).trans (heap_alloc_new w9 (.cells #[.string yk, .slice A5 yv.length cc5] 48))) ((HHH.out.alloc HHH.out.size (.cells #[.string yk, .slice A5 yv.length cc5] 48)).alloc (HHH.out.alloc HHH.out.size _).size (.cells #[.string yk, .slice A4 yv.length cc4] 48))))
        refine wpAnyH_ready (rs := [13]) (by kernel_rfl) (by simp) ?_
        refine AllReadyH.cons (o := _) (dropAt rfl) (fun K hK => ?_) AllReadyH.nil
        go_simp
        (go_at_call 30; refine (sameRecs_true _ _ 1 1 1 1 [⟨yk, yv⟩] _ (slr_one (x := ⟨yk, yv⟩) (A := A4) (n := yv.length) (c := cc4) HL.out.1 (HRY.out.below HL.out.2.2)) (slr_one (x := ⟨yk, yv⟩) (A := A5) (n := yv.length) (c := cc5) HL.out.2.1 (HRZ.out.below HL.out.2.2)) (by omega)).mono ?_; rintro e w8 ⟨rfl, b8⟩)
        refine hK.out _ _ ?_ (fun hHeld => ?_)
        · exact HSS.out _ (HL.out.2.2.trans (b8.mono HL.out.2.2.size))
        clear hK K
        try simp only [Act.put, List.setIfInBounds_toArray, List.set_cons_zero, List.set_cons_succ]
        have HB8 := Lib.hid (HB4.out.trans ((HL.out.2.2.trans (b8.mono HL.out.2.2.size)).mono HB4.out.size))
        clear b8
        first
          | (refine wpAnyH_take (i := 14) (oi := _) (v := undef) (dropAt rfl) (by kernel_rfl) (by kernel_rfl) (by kernel_rfl) (fun _ _ _ h => h) (Or.inr ⟨by rfl, rfl⟩) (by assumption) ?_)
          | (refine wpAnyH_take (i := 14) (oi := _) (v := ?_) (dropAt rfl) (by kernel_rfl) (by kernel_rfl) (by kernel_rfl) (fun _ _ _ h => h) (Or.inl ⟨by rfl, ?_⟩) (by assumption) ?_; rotate_left; (focus (intro w2 hSw; (try dsimp only at hSw); go_simp; try with_reducible rfl)))
          | fail
        try simp only [Act.put, List.setIfInBounds_toArray, List.set_cons_zero, List.set_cons_succ]
        first
          | (refine wpAnyH_take (i := 15) (oi := _) (v := undef) (dropAt rfl) (by kernel_rfl) (by kernel_rfl) (by kernel_rfl) (fun _ _ _ h => h) (Or.inr ⟨by rfl, rfl⟩) (by assumption) ?_)
          | (refine wpAnyH_take (i := 15) (oi := _) (v := ?_) (dropAt rfl) (by kernel_rfl) (by kernel_rfl) (by kernel_rfl) (fun _ _ _ h => h) (Or.inl ⟨by rfl, ?_⟩) (by assumption) ?_; rotate_left; (focus (intro w2 hSw; (try dsimp only at hSw); go_simp; try with_reducible rfl)))
          | fail
        try simp only [Act.put, List.setIfInBounds_toArray, List.set_cons_zero, List.set_cons_succ]
        first
          | (refine wpAnyH_take (i := 16) (oi := _) (v := undef) (dropAt rfl) (by kernel_rfl) (by kernel_rfl) (by kernel_rfl) (fun _ _ _ h => h) (Or.inr ⟨by rfl, rfl⟩) (by assumption) ?_)
          | (refine wpAnyH_take (i := 16) (oi := _) (v := ?_) (dropAt rfl) (by kernel_rfl) (by kernel_rfl) (by kernel_rfl) (fun _ _ _ h => h) (Or.inl ⟨by rfl, ?_⟩) (by assumption) ?_; rotate_left; (focus (intro w2 hSw; (try dsimp only at hSw); go_simp; try with_reducible rfl)))
          | fail
        try simp only [Act.put, List.setIfInBounds_toArray, List.set_cons_zero, List.set_cons_succ]
        first
          | (refine wpAnyH_take (i := 17) (oi := _) (v := undef) (dropAt rfl) (by kernel_rfl) (by kernel_rfl) (by kernel_rfl) (fun _ _ _ h => h) (Or.inr ⟨by rfl, rfl⟩) (by assumption) ?_)
          | (refine wpAnyH_take (i := 17) (oi := _) (v := ?_) (dropAt rfl) (by kernel_rfl) (by kernel_rfl) (by kernel_rfl) (fun _ _ _ h => h) (Or.inl ⟨by rfl, ?_⟩) (by assumption) ?_; rotate_left; (focus (intro w2 hSw; (try dsimp only at hSw); go_simp; try with_reducible rfl)))
          | fail
        try simp only [Act.put, List.setIfInBounds_toArray, List.set_cons_zero, List.set_cons_succ]
        first
          | (refine wpAnyH_take (i := 18) (oi := _) (v := undef) (dropAt rfl) (by kernel_rfl) (by kernel_rfl) (by kernel_rfl) (fun _ _ _ h => h) (Or.inr ⟨by rfl, rfl⟩) (by assumption) ?_)
          | (refine wpAnyH_take (i := 18) (oi := _) (v := ?_) (dropAt rfl) (by kernel_rfl) (by kernel_rfl) (by kernel_rfl) (fun _ _ _ h => h) (Or.inl ⟨by rfl, ?_⟩) (by assumption) ?_; rotate_left; (focus (intro w2 hSw; (try dsimp only at hSw); go_simp; try with_reducible rfl)))
          | fail
        try simp only [Act.put, List.setIfInBounds_toArray, List.set_cons_zero, List.set_cons_succ]
        first
          | (refine wpAnyH_take (i := 19) (oi := _) (v := undef) (dropAt rfl) (by kernel_rfl) (by kernel_rfl) (by kernel_rfl) (fun _ _ _ h => h) (Or.inr ⟨by rfl, rfl⟩) (by assumption) ?_)
          | (refine wpAnyH_take (i := 19) (oi := _) (v := ?_) (dropAt rfl) (by kernel_rfl) (by kernel_rfl) (by kernel_rfl) (fun _ _ _ h => h) (Or.inl ⟨by rfl, ?_⟩) (by assumption) ?_; rotate_left; (focus (intro w2 hSw; (try dsimp only at hSw); go_simp; try with_reducible rfl)))
          | fail
        try simp only [Act.put, List.setIfInBounds_toArray, List.set_cons_zero, List.set_cons_succ]
        first
          | (refine wpAnyH_take (i := 20) (oi := _) (v := undef) (dropAt rfl) (by kernel_rfl) (by kernel_rfl) (by kernel_rfl) (fun _ _ _ h => h) (Or.inr ⟨by rfl, rfl⟩) (by assumption) ?_)
          | (refine wpAnyH_take (i := 20) (oi := _) (v := ?_) (dropAt rfl) (by kernel_rfl) (by kernel_rfl) (by kernel_rfl) (fun _ _ _ h => h) (Or.inl ⟨by rfl, ?_⟩) (by assumption) ?_; rotate_left; (focus (intro w2 hSw; (try dsimp only at hSw); go_simp; try with_reducible rfl)))
          | fail
        try simp only [Act.put, List.setIfInBounds_toArray, List.set_cons_zero, List.set_cons_succ]
        refine wpAnyH_done (by kernel_rfl) ?_ _
        refine NoPanic.normal ?_
        clear hHeld
        go_wp2
        go_ret
        exact ⟨rfl, HB8.out⟩
  · have e1 : putRecE ⟨key, vers⟩ = (recB ⟨key, vers⟩, 0) := by unfold putRecE; rw [if_pos hr]
    rw [e1] at c1
    obtain ⟨T, hT⟩ : ∃ T, recB ⟨key, vers⟩ = T := ⟨_, rfl⟩
    rw [hT] at c1
    have C1 := Lib.hid c1
    have HR := Lib.hid hr
    have HT := Lib.hid hT
    clear c1 e1 hr hT
    go_enter Try.func9, Try.ntmps9
    go_wp2_with fail
    refine C1.out.mono ?_
    rintro e w1 ⟨A1, n1, c1, rfl, sx, hc1, -, b2, -⟩
    have c2 := refRightRec_any ⟨key, vers⟩ Ar nr cr w1 (HRA.out.below b2)
    rw [HR.out] at c2
    have C2 := Lib.hid c2
    have HB1 := Lib.hid b2
    have HSX := Lib.hid sx
    have HX1 := Lib.hid ((b2.block _ (lt_of_block HX0.out)).trans HX0.out)
    have g0 := row_cell (j := 0) HX1.out rfl
    have g1 := row_cell (j := 1) HX1.out rfl
    clear C1 sx b2 c2
    go_wp2_with fail
    refine C2.out.mono ?_
    rintro e w2 ⟨rfl, b3⟩
    have bq := HB1.out.trans (b3.mono HB1.out.size)
    have HX2 := Lib.hid ((b3.block _ (lt_of_block HX1.out)).trans HX1.out)
    have HB2 := Lib.hid (HA.out.trans (bq.mono HA.out.size))
    have HRR1 := Lib.hid (HRA.out.below bq)
    have HS2 := Lib.hid (Sl.below HSA.out bq)
    have HSX2 := Lib.hid (Sl.below HSX.out b3)
    have HSS := Lib.hid (fun (W' : World) (bl : Below w2.heap.size w2 W') => And.intro (conv6 (Sl.below HSX2.out bl) c1) (And.intro ((bl.cell (p := ⟨W.heap.size, 0, none⟩) (lt_of_block HX2.out)).trans (row_cell (j := 0) HX2.out rfl)) (And.intro ((bl.cell (p := ⟨W.heap.size, 1, none⟩) (lt_of_block HX2.out)).trans (row_cell (j := 1) HX2.out rfl)) bl)))
    have C4 := Lib.hid (fun (W' : World) (bl : Below w2.heap.size w2 W') => refPutRec_any W' ⟨key, vers⟩ Ar nr cr (HRR1.out.below bl).sl HR.out)
    clear C2 b3 HB1 bq HA HRA HSA HX0 HX1 HSX g0 g1
    go_wp2_with fail
    refine wp_region_noPanic ?_
    refine wp_region_held_drew (S := (fun w' => (convert 31 9 (.slice A1 n1 c1)).run Try.prog w' = .ok (.string ⟨T.toArray⟩) w' ∧ w'.cell? ⟨W.heap.size, 0, none⟩ = some (.string key) ∧ w'.cell? ⟨W.heap.size, 1, none⟩ = some (.slice Ar nr cr) ∧ Below w2.heap.size w2 w')) (by kernel_rfl) ?_ (fun hHeld => ?_)
    · exact HSS.out _ (Below.refl _ _).drew
    first
      | (refine wpAnyH_take (i := 0) (oi := _) (v := undef) (dropAt rfl) (by kernel_rfl) (by kernel_rfl) (by kernel_rfl) (fun _ _ _ h => h) (Or.inr ⟨by rfl, rfl⟩) (by assumption) ?_)
      | (refine wpAnyH_take (i := 0) (oi := _) (v := ?_) (dropAt rfl) (by kernel_rfl) (by kernel_rfl) (by kernel_rfl) (fun _ _ _ h => h) (Or.inl ⟨by rfl, ?_⟩) (by assumption) ?_; rotate_left; (focus (intro w2 hSw; (try dsimp only at hSw); go_simp; try with_reducible rfl)))
      | fail
    try simp only [Act.put, List.setIfInBounds_toArray, List.set_cons_zero, List.set_cons_succ]
    first
      | (refine wpAnyH_take (i := 1) (oi := _) (v := undef) (dropAt rfl) (by kernel_rfl) (by kernel_rfl) (by kernel_rfl) (fun _ _ _ h => h) (Or.inr ⟨by rfl, rfl⟩) (by assumption) ?_)
      | (refine wpAnyH_take (i := 1) (oi := _) (v := ?_) (dropAt rfl) (by kernel_rfl) (by kernel_rfl) (by kernel_rfl) (fun _ _ _ h => h) (Or.inl ⟨by rfl, ?_⟩) (by assumption) ?_; rotate_left; (focus (intro w2 hSw; (try dsimp only at hSw); go_simp; try with_reducible rfl)))
      | fail
    try simp only [Act.put, List.setIfInBounds_toArray, List.set_cons_zero, List.set_cons_succ]
    first
      | (refine wpAnyH_take (i := 2) (oi := _) (v := undef) (dropAt rfl) (by kernel_rfl) (by kernel_rfl) (by kernel_rfl) (fun _ _ _ h => h) (Or.inr ⟨by rfl, rfl⟩) (by assumption) ?_)
      | (refine wpAnyH_take (i := 2) (oi := _) (v := ?_) (dropAt rfl) (by kernel_rfl) (by kernel_rfl) (by kernel_rfl) (fun _ _ _ h => h) (Or.inl ⟨by rfl, ?_⟩) (by assumption) ?_; rotate_left; (focus (intro w2 hSw; (try dsimp only at hSw); go_simp; try with_reducible rfl)))
      | fail
    try simp only [Act.put, List.setIfInBounds_toArray, List.set_cons_zero, List.set_cons_succ]
    first
      | (refine wpAnyH_take (i := 3) (oi := _) (v := undef) (dropAt rfl) (by kernel_rfl) (by kernel_rfl) (by kernel_rfl) (fun _ _ _ h => h) (Or.inr ⟨by rfl, rfl⟩) (by assumption) ?_)
      | (refine wpAnyH_take (i := 3) (oi := _) (v := ?_) (dropAt rfl) (by kernel_rfl) (by kernel_rfl) (by kernel_rfl) (fun _ _ _ h => h) (Or.inl ⟨by rfl, ?_⟩) (by assumption) ?_; rotate_left; (focus (intro w2 hSw; (try dsimp only at hSw); go_simp; try with_reducible rfl)))
      | fail
    try simp only [Act.put, List.setIfInBounds_toArray, List.set_cons_zero, List.set_cons_succ]
    first
      | (refine wpAnyH_take (i := 4) (oi := _) (v := undef) (dropAt rfl) (by kernel_rfl) (by kernel_rfl) (by kernel_rfl) (fun _ _ _ h => h) (Or.inr ⟨by rfl, rfl⟩) (by assumption) ?_)
      | (refine wpAnyH_take (i := 4) (oi := _) (v := ?_) (dropAt rfl) (by kernel_rfl) (by kernel_rfl) (by kernel_rfl) (fun _ _ _ h => h) (Or.inl ⟨by rfl, ?_⟩) (by assumption) ?_; rotate_left; (focus (intro w2 hSw; (try dsimp only at hSw); go_simp; try with_reducible rfl)))
      | fail
    try simp only [Act.put, List.setIfInBounds_toArray, List.set_cons_zero, List.set_cons_succ]
    first
      | (refine wpAnyH_take (i := 5) (oi := _) (v := undef) (dropAt rfl) (by kernel_rfl) (by kernel_rfl) (by kernel_rfl) (fun _ _ _ h => h) (Or.inr ⟨by rfl, rfl⟩) (by assumption) ?_)
      | (refine wpAnyH_take (i := 5) (oi := _) (v := ?_) (dropAt rfl) (by kernel_rfl) (by kernel_rfl) (by kernel_rfl) (fun _ _ _ h => h) (Or.inl ⟨by rfl, ?_⟩) (by assumption) ?_; rotate_left; (focus (intro w2 hSw; (try dsimp only at hSw); go_simp; try with_reducible rfl)))
      | fail
    try simp only [Act.put, List.setIfInBounds_toArray, List.set_cons_zero, List.set_cons_succ]
    refine wpAnyH_ready (rs := [6]) (by kernel_rfl) (by simp) ?_
    refine AllReadyH.cons (o := _) (dropAt rfl) (fun K hK => ?_) AllReadyH.nil
    go_simp
    (go_at_call 26; refine (C4.out _ hHeld.2.2.2).mono ?_; intro e w4 h4; obtain ⟨A4, n4, c4, rfl, s4, -, -, b4, -⟩ := h4.read)
    refine hK.out _ _ ?_ (fun hHeld => ?_)
    · exact HSS.out _ (hHeld.2.2.2.trans (b4.mono hHeld.2.2.2.size))
    clear hK K
    try simp only [Act.put, List.setIfInBounds_toArray, List.set_cons_zero, List.set_cons_succ]
    rw [HT.out] at s4
    have e4 := conv6 s4 c4
    have HH4 := Lib.hid hHeld.2.2.2
    clear s4 b4
    refine wpAnyH_ready (rs := [7]) (by kernel_rfl) (by simp) ?_
    refine AllReadyH.cons (o := _) (dropAt rfl) (fun K hK => ?_) AllReadyH.nil
    go_simp
    refine hK.out _ _ ?_ (fun hHeld => ?_)
    · exact HSS.out _ HH4.out
    clear hK K
    try simp only [Act.put, List.setIfInBounds_toArray, List.set_cons_zero, List.set_cons_succ]
    first
      | (refine wpAnyH_take (i := 8) (oi := _) (v := undef) (dropAt rfl) (by kernel_rfl) (by kernel_rfl) (by kernel_rfl) (fun _ _ _ h => h) (Or.inr ⟨by rfl, rfl⟩) (by assumption) ?_)
      | (refine wpAnyH_take (i := 8) (oi := _) (v := ?_) (dropAt rfl) (by kernel_rfl) (by kernel_rfl) (by kernel_rfl) (fun _ _ _ h => h) (Or.inl ⟨by rfl, ?_⟩) (by assumption) ?_; rotate_left; (focus (intro w2 hSw; (try dsimp only at hSw); go_simp; try with_reducible rfl)))
      | fail
    try simp only [Act.put, List.setIfInBounds_toArray, List.set_cons_zero, List.set_cons_succ]
    first
      | (refine wpAnyH_take (i := 9) (oi := _) (v := undef) (dropAt rfl) (by kernel_rfl) (by kernel_rfl) (by kernel_rfl) (fun _ _ _ h => h) (Or.inr ⟨by rfl, rfl⟩) (by assumption) ?_)
      | (refine wpAnyH_take (i := 9) (oi := _) (v := ?_) (dropAt rfl) (by kernel_rfl) (by kernel_rfl) (by kernel_rfl) (fun _ _ _ h => h) (Or.inl ⟨by rfl, ?_⟩) (by assumption) ?_; rotate_left; (focus (intro w2 hSw; (try dsimp only at hSw); go_simp; try with_reducible rfl)))
      | fail
    try simp only [Act.put, List.setIfInBounds_toArray, List.set_cons_zero, List.set_cons_succ]
    refine wpAnyH_done (by kernel_rfl) ?_ _
    refine NoPanic.normal ?_
    have HX := Lib.hid ((HH4.out.block _ (lt_of_block HX2.out)).trans HX2.out)
    have HB3 := Lib.hid (HB2.out.trans (HH4.out.mono HB2.out.size))
    have HRR2 := Lib.hid (HRR1.out.below HH4.out)
    have HS3 := Lib.hid (Sl.below HS2.out HH4.out)
    clear hHeld e4 C4 HSS HSX2 HX2 HB2 HRR1 HS2 HH4
    -- HX : the record's block in _, HB3 : Below W .. _, HRR2, HS3
    have C4 := rec_any _ a1 len1 cap1 l1 HS3.out b1 (by omega)
    cases ho : recR okP l1 with
    | none =>
      rw [ho] at C4
      have HO := Lib.hid ho
      have C4 := Lib.hid C4
      clear ho
      go_wp2_with fail
      refine C4.out.mono ?_
      rintro e w4 ⟨rfl, b4⟩
      have bY : Below w4.heap.size w4 (w4.alloc (.cells #[.string ⟨#[]⟩, .slice none 0 0] 48)) := (Below.refl _ _).alloc (Nat.le_refl _) _
      have b4Y := b4.trans (bY.mono b4.size)
      have hY := heap_alloc_new w4 (.cells #[.string ⟨#[]⟩, .slice none 0 0] 48)
      have c5 := refRecTop_any (w4.alloc (.cells #[.string ⟨#[]⟩, .slice none 0 0] 48)) a1 len1 cap1 l1 (Sl.below HS3.out b4Y) b1 (by omega)
      rw [HO.out] at c5
      have C5 := Lib.hid c5
      have HYB := Lib.hid (And.intro b4Y hY)
      clear c5 bY b4Y hY b4 C4
      go_wp2_with fail
      refine C5.out.mono ?_
      rintro e w5 ⟨rfl, b5⟩
      have bZ : Below w5.heap.size w5 (w5.alloc (.cells #[.string ⟨#[]⟩, .slice none 0 0] 48)) := (Below.refl _ _).alloc (Nat.le_refl _) _
      have hZ := heap_alloc_new w5 (.cells #[.string ⟨#[]⟩, .slice none 0 0] 48)
      have bq := (HYB.out.1.trans (b5.mono HYB.out.1.size)).trans (bZ.mono (HYB.out.1.trans (b5.mono HYB.out.1.size)).size)
      have hXY := (bZ.block _ (lt_of_block ((b5.block _ (lt_of_block HYB.out.2)).trans HYB.out.2))).trans ((b5.block _ (lt_of_block HYB.out.2)).trans HYB.out.2)
      obtain ⟨w3, hw3⟩ : ∃ w3, w5.alloc (.cells #[.string ⟨#[]⟩, .slice none 0 0] 48) = w3 := ⟨_, rfl⟩
      rw [hw3] at hZ bq hXY
      have HXR := Lib.hid ((bq.block _ (lt_of_block HX.out)).trans HX.out)
      have HXY := Lib.hid hXY
      have HXZ := Lib.hid hZ
      have HRR := Lib.hid (HRR2.out.below bq)
      have HB4 := Lib.hid (HB3.out.trans (bq.mono HB3.out.size))
      have HRY := Lib.hid (rrow_nil w3)
      have HRZ := Lib.hid (rrow_nil w3)
      have HW3 := Lib.hid hw3
      clear hw3 bZ hZ bq b5 C5 HYB HX HB3 HS3 HRR2 HO hXY
      have HSS := Lib.hid (fun (W' : World) (bl : Below w3.heap.size w3 W') => And.intro ((bl.cell (p := ⟨W.heap.size, 0, none⟩) (lt_of_block HXR.out)).trans (row_cell (j := 0) HXR.out rfl)) (And.intro ((bl.cell (p := ⟨W.heap.size, 1, none⟩) (lt_of_block HXR.out)).trans (row_cell (j := 1) HXR.out rfl)) (And.intro ((bl.cell (p := ⟨w4.heap.size, 0, none⟩) (lt_of_block HXY.out)).trans (row_cell (j := 0) HXY.out rfl)) (And.intro ((bl.cell (p := ⟨w4.heap.size, 1, none⟩) (lt_of_block HXY.out)).trans (row_cell (j := 1) HXY.out rfl)) (And.intro ((bl.cell (p := ⟨w5.heap.size, 0, none⟩) (lt_of_block HXZ.out)).trans (row_cell (j := 0) HXZ.out rfl)) (And.intro ((bl.cell (p := ⟨w5.heap.size, 1, none⟩) (lt_of_block HXZ.out)).trans (row_cell (j := 1) HXZ.out rfl)) bl))))))
      go_wp2_with fail
      rw [HW3.out]
      refine wp_region_noPanic ?_
      refine wp_region_held_drew (S := (fun w' => w'.cell? ⟨W.heap.size, 0, none⟩ = some (.string key) ∧ w'.cell? ⟨W.heap.size, 1, none⟩ = some (.slice Ar nr cr) ∧ w'.cell? ⟨w4.heap.size, 0, none⟩ = some (.string ⟨#[]⟩) ∧ w'.cell? ⟨w4.heap.size, 1, none⟩ = some (.slice none 0 0) ∧ w'.cell? ⟨w5.heap.size, 0, none⟩ = some (.string ⟨#[]⟩) ∧ w'.cell? ⟨w5.heap.size, 1, none⟩ = some (.slice none 0 0) ∧ Below w3.heap.size w3 w')) (by kernel_rfl) ?_ (fun hHeld => ?_)
      · exact HSS.out _ (Below.refl _ _).drew
      refine wpAnyH_ready (rs := [0]) (by kernel_rfl) (by simp) ?_
      refine AllReadyH.cons (o := _) (dropAt rfl) (fun K hK => ?_) AllReadyH.nil
      go_simp
      (go_at_call 12; refine (awake_any _).mono ?_; rintro e w7 ⟨rfl, b7⟩)
      refine hK.out _ _ ?_ (fun hHeld => ?_)
      · exact HSS.out _ ((Below.refl _ _).drew.trans (b7.mono (by simp)))
      clear hK K
      try simp only [Act.put, List.setIfInBounds_toArray, List.set_cons_zero, List.set_cons_succ]
      first
        | (refine wpAnyH_take (i := 1) (oi := _) (v := undef) (dropAt rfl) (by kernel_rfl) (by kernel_rfl) (by kernel_rfl) (fun _ _ _ h => h) (Or.inr ⟨by rfl, rfl⟩) (by assumption) ?_)
        | (refine wpAnyH_take (i := 1) (oi := _) (v := ?_) (dropAt rfl) (by kernel_rfl) (by kernel_rfl) (by kernel_rfl) (fun _ _ _ h => h) (Or.inl ⟨by rfl, ?_⟩) (by assumption) ?_; rotate_left; (focus (intro w2 hSw; (try dsimp only at hSw); go_simp; try with_reducible rfl)))
        | fail
      try simp only [Act.put, List.setIfInBounds_toArray, List.set_cons_zero, List.set_cons_succ]
      first
        | (refine wpAnyH_take (i := 2) (oi := _) (v := undef) (dropAt rfl) (by kernel_rfl) (by kernel_rfl) (by kernel_rfl) (fun _ _ _ h => h) (Or.inr ⟨by rfl, rfl⟩) (by assumption) ?_)
        | (refine wpAnyH_take (i := 2) (oi := _) (v := ?_) (dropAt rfl) (by kernel_rfl) (by kernel_rfl) (by kernel_rfl) (fun _ _ _ h => h) (Or.inl ⟨by rfl, ?_⟩) (by assumption) ?_; rotate_left; (focus (intro w2 hSw; (try dsimp only at hSw); go_simp; try with_reducible rfl)))
        | fail
      try simp only [Act.put, List.setIfInBounds_toArray, List.set_cons_zero, List.set_cons_succ]
      first
        | (refine wpAnyH_take (i := 4) (oi := _) (v := undef) (dropAt rfl) (by kernel_rfl) (by kernel_rfl) (by kernel_rfl) (fun _ _ _ h => h) (Or.inr ⟨by rfl, rfl⟩) (by assumption) ?_)
        | (refine wpAnyH_take (i := 4) (oi := _) (v := ?_) (dropAt rfl) (by kernel_rfl) (by kernel_rfl) (by kernel_rfl) (fun _ _ _ h => h) (Or.inl ⟨by rfl, ?_⟩) (by assumption) ?_; rotate_left; (focus (intro w2 hSw; (try dsimp only at hSw); go_simp; try with_reducible rfl)))
        | fail
      try simp only [Act.put, List.setIfInBounds_toArray, List.set_cons_zero, List.set_cons_succ]
      have HHA := Lib.hid hHeld.2.2.2.2.2.2
      refine wpAnyH_ready (rs := [3]) (by kernel_rfl) (by simp) ?_
      refine AllReadyH.cons (o := _) (dropAt rfl) (fun K hK => ?_) AllReadyH.nil
      go_simp
      (go_at_call 29; refine (rightRec_any ⟨key, vers⟩ Ar nr cr _ (HRR.out.below HHA.out)).mono ?_; rintro e w8 ⟨rfl, b8⟩)
      refine hK.out _ _ ?_ (fun hHeld => ?_)
      · exact HSS.out _ (HHA.out.trans (b8.mono HHA.out.size))
      clear hK K
      try simp only [Act.put, List.setIfInBounds_toArray, List.set_cons_zero, List.set_cons_succ]
      have HHB := Lib.hid (HHA.out.trans (b8.mono HHA.out.size))
      clear b8
      refine wpAnyH_ready (rs := [5]) (by kernel_rfl) (by simp) ?_
      refine AllReadyH.cons (o := _) (dropAt rfl) (fun K hK => ?_) AllReadyH.nil
      go_simp
      (go_at_call 25; refine (refRightRec_any ⟨key, vers⟩ Ar nr cr _ (HRR.out.below HHB.out)).mono ?_; rintro e w9 ⟨rfl, b9⟩)
      refine hK.out _ _ ?_ (fun hHeld => ?_)
      · exact HSS.out _ (HHB.out.trans (b9.mono HHB.out.size))
      clear hK K
      try simp only [Act.put, List.setIfInBounds_toArray, List.set_cons_zero, List.set_cons_succ]
      clear b9
      first
        | (refine wpAnyH_take (i := 6) (oi := _) (v := undef) (dropAt rfl) (by kernel_rfl) (by kernel_rfl) (by kernel_rfl) (fun _ _ _ h => h) (Or.inr ⟨by rfl, rfl⟩) (by assumption) ?_)
        | (refine wpAnyH_take (i := 6) (oi := _) (v := ?_) (dropAt rfl) (by kernel_rfl) (by kernel_rfl) (by kernel_rfl) (fun _ _ _ h => h) (Or.inl ⟨by rfl, ?_⟩) (by assumption) ?_; rotate_left; (focus (intro w2 hSw; (try dsimp only at hSw); go_simp; try with_reducible rfl)))
        | fail
      try simp only [Act.put, List.setIfInBounds_toArray, List.set_cons_zero, List.set_cons_succ]
      first
        | (refine wpAnyH_take (i := 7) (oi := _) (v := undef) (dropAt rfl) (by kernel_rfl) (by kernel_rfl) (by kernel_rfl) (fun _ _ _ h => h) (Or.inr ⟨by rfl, rfl⟩) (by assumption) ?_)
        | (refine wpAnyH_take (i := 7) (oi := _) (v := ?_) (dropAt rfl) (by kernel_rfl) (by kernel_rfl) (by kernel_rfl) (fun _ _ _ h => h) (Or.inl ⟨by rfl, ?_⟩) (by assumption) ?_; rotate_left; (focus (intro w2 hSw; (try dsimp only at hSw); go_simp; try with_reducible rfl)))
        | fail
      try simp only [Act.put, List.setIfInBounds_toArray, List.set_cons_zero, List.set_cons_succ]
      first
        | (refine wpAnyH_take (i := 8) (oi := _) (v := undef) (dropAt rfl) (by kernel_rfl) (by kernel_rfl) (by kernel_rfl) (fun _ _ _ h => h) (Or.inr ⟨by rfl, rfl⟩) (by assumption) ?_)
        | (refine wpAnyH_take (i := 8) (oi := _) (v := ?_) (dropAt rfl) (by kernel_rfl) (by kernel_rfl) (by kernel_rfl) (fun _ _ _ h => h) (Or.inl ⟨by rfl, ?_⟩) (by assumption) ?_; rotate_left; (focus (intro w2 hSw; (try dsimp only at hSw); go_simp; try with_reducible rfl)))
        | fail
      try simp only [Act.put, List.setIfInBounds_toArray, List.set_cons_zero, List.set_cons_succ]
      first
        | (refine wpAnyH_take (i := 9) (oi := _) (v := undef) (dropAt rfl) (by kernel_rfl) (by kernel_rfl) (by kernel_rfl) (fun _ _ _ h => h) (Or.inr ⟨by rfl, rfl⟩) (by assumption) ?_)
        | (refine wpAnyH_take (i := 9) (oi := _) (v := ?_) (dropAt rfl) (by kernel_rfl) (by kernel_rfl) (by kernel_rfl) (fun _ _ _ h => h) (Or.inl ⟨by rfl, ?_⟩) (by assumption) ?_; rotate_left; (focus (intro w2 hSw; (try dsimp only at hSw); go_simp; try with_reducible rfl)))
        | fail
      try simp only [Act.put, List.setIfInBounds_toArray, List.set_cons_zero, List.set_cons_succ]
      first
        | (refine wpAnyH_take (i := 11) (oi := _) (v := undef) (dropAt rfl) (by kernel_rfl) (by kernel_rfl) (by kernel_rfl) (fun _ _ _ h => h) (Or.inr ⟨by rfl, rfl⟩) (by assumption) ?_)
        | (refine wpAnyH_take (i := 11) (oi := _) (v := ?_) (dropAt rfl) (by kernel_rfl) (by kernel_rfl) (by kernel_rfl) (fun _ _ _ h => h) (Or.inl ⟨by rfl, ?_⟩) (by assumption) ?_; rotate_left; (focus (intro w2 hSw; (try dsimp only at hSw); go_simp; try with_reducible rfl)))
        | fail
      try simp only [Act.put, List.setIfInBounds_toArray, List.set_cons_zero, List.set_cons_succ]
      have HHH := Lib.hid hHeld.2.2.2.2.2.2
      refine wpAnyH_ready (rs := [10, 12]) (by kernel_rfl) (by simp) ?_
      refine AllReadyH.cons (o := _) (dropAt rfl) (fun K hK => ?_) (AllReadyH.cons (o := _) (dropAt rfl) (fun K hK => ?_) AllReadyH.nil)
      · go_simp
        skip
        refine hK.out _ _ ?_ (fun hHeld9 => ?_)
        · exact HSS.out _ (HHH.out.alloc HHH.out.size _)
        clear hK K hHeld
        have hHeld := hHeld9
        clear hHeld9
        try simp only [Act.put, List.setIfInBounds_toArray, List.set_cons_zero, List.set_cons_succ]
        refine wpAnyH_ready (rs := [12]) (by kernel_rfl) (by simp) ?_
        refine AllReadyH.cons (o := _) (dropAt rfl) (fun K hK => ?_) AllReadyH.nil
        go_simp
        refine hK.out _ _ ?_ (fun hHeld => ?_)
        · exact HSS.out _ ((HHH.out.alloc HHH.out.size _).alloc (HHH.out.alloc HHH.out.size _).size _)
        clear hK K
        try simp only [Act.put, List.setIfInBounds_toArray, List.set_cons_zero, List.set_cons_succ]
        have HL := Lib.hid (And.intro ((Below.heap_alloc (w9.alloc (.cells #[.string ⟨#[]⟩, .slice none 0 0] 48)) (.cells #[.string ⟨#[]⟩, .slice none 0 0] 48) _ (by simp)).trans (heap_alloc_new w9 (.cells #[.string ⟨#[]⟩, .slice none 0 0] 48))) (And.intro ((show ((w9.alloc (.cells #[.string ⟨#[]⟩, .slice none 0 0] 48)).alloc (.cells #[.string ⟨#[]⟩, .slice none 0 0] 48)).heap[w9.heap.size + 1]? = some (.cells #[.string ⟨#[]⟩, .slice none 0 0] 48 (0, 0)) from by have h := heap_alloc_new (w9.alloc (.cells #[.string ⟨#[]⟩, .slice none 0 0] 48)) (.cells #[.string ⟨#[]⟩, .slice none 0 0] 48); rw [show (w9.alloc (.cells #[.string ⟨#[]⟩, .slice none 0 0] 48)).heap.size = w9.heap.size + 1 by simp] at h; exact h)) ((HHH.out.alloc HHH.out.size (.cells #[.string ⟨#[]⟩, .slice none 0 0] 48)).alloc (HHH.out.alloc HHH.out.size _).size (.cells #[.string ⟨#[]⟩, .slice none 0 0] 48))))
        refine wpAnyH_ready (rs := [13]) (by kernel_rfl) (by simp) ?_
        refine AllReadyH.cons (o := _) (dropAt rfl) (fun K hK => ?_) AllReadyH.nil
        go_simp
        (go_at_call 30; refine (sameRecs_true _ _ 1 1 1 1 [⟨⟨#[]⟩, []⟩] _ (slr_one (x := ⟨⟨#[]⟩, []⟩) (A := none) (n := 0) (c := 0) HL.out.1 (HRY.out.below HL.out.2.2)) (slr_one (x := ⟨⟨#[]⟩, []⟩) (A := none) (n := 0) (c := 0) HL.out.2.1 (HRZ.out.below HL.out.2.2)) (by omega)).mono ?_; rintro e w8 ⟨rfl, b8⟩)
        refine hK.out _ _ ?_ (fun hHeld => ?_)
        · exact HSS.out _ (HL.out.2.2.trans (b8.mono HL.out.2.2.size))
        clear hK K
        try simp only [Act.put, List.setIfInBounds_toArray, List.set_cons_zero, List.set_cons_succ]
        have HB8 := Lib.hid (HB4.out.trans ((HL.out.2.2.trans (b8.mono HL.out.2.2.size)).mono HB4.out.size))
        clear b8
        first
          | (refine wpAnyH_take (i := 14) (oi := _) (v := undef) (dropAt rfl) (by kernel_rfl) (by kernel_rfl) (by kernel_rfl) (fun _ _ _ h => h) (Or.inr ⟨by rfl, rfl⟩) (by assumption) ?_)
          | (refine wpAnyH_take (i := 14) (oi := _) (v := ?_) (dropAt rfl) (by kernel_rfl) (by kernel_rfl) (by kernel_rfl) (fun _ _ _ h => h) (Or.inl ⟨by rfl, ?_⟩) (by assumption) ?_; rotate_left; (focus (intro w2 hSw; (try dsimp only at hSw); go_simp; try with_reducible rfl)))
          | fail
        try simp only [Act.put, List.setIfInBounds_toArray, List.set_cons_zero, List.set_cons_succ]
        first
          | (refine wpAnyH_take (i := 15) (oi := _) (v := undef) (dropAt rfl) (by kernel_rfl) (by kernel_rfl) (by kernel_rfl) (fun _ _ _ h => h) (Or.inr ⟨by rfl, rfl⟩) (by assumption) ?_)
          | (refine wpAnyH_take (i := 15) (oi := _) (v := ?_) (dropAt rfl) (by kernel_rfl) (by kernel_rfl) (by kernel_rfl) (fun _ _ _ h => h) (Or.inl ⟨by rfl, ?_⟩) (by assumption) ?_; rotate_left; (focus (intro w2 hSw; (try dsimp only at hSw); go_simp; try with_reducible rfl)))
          | fail
        try simp only [Act.put, List.setIfInBounds_toArray, List.set_cons_zero, List.set_cons_succ]
        first
          | (refine wpAnyH_take (i := 16) (oi := _) (v := undef) (dropAt rfl) (by kernel_rfl) (by kernel_rfl) (by kernel_rfl) (fun _ _ _ h => h) (Or.inr ⟨by rfl, rfl⟩) (by assumption) ?_)
          | (refine wpAnyH_take (i := 16) (oi := _) (v := ?_) (dropAt rfl) (by kernel_rfl) (by kernel_rfl) (by kernel_rfl) (fun _ _ _ h => h) (Or.inl ⟨by rfl, ?_⟩) (by assumption) ?_; rotate_left; (focus (intro w2 hSw; (try dsimp only at hSw); go_simp; try with_reducible rfl)))
          | fail
        try simp only [Act.put, List.setIfInBounds_toArray, List.set_cons_zero, List.set_cons_succ]
        first
          | (refine wpAnyH_take (i := 17) (oi := _) (v := undef) (dropAt rfl) (by kernel_rfl) (by kernel_rfl) (by kernel_rfl) (fun _ _ _ h => h) (Or.inr ⟨by rfl, rfl⟩) (by assumption) ?_)
          | (refine wpAnyH_take (i := 17) (oi := _) (v := ?_) (dropAt rfl) (by kernel_rfl) (by kernel_rfl) (by kernel_rfl) (fun _ _ _ h => h) (Or.inl ⟨by rfl, ?_⟩) (by assumption) ?_; rotate_left; (focus (intro w2 hSw; (try dsimp only at hSw); go_simp; try with_reducible rfl)))
          | fail
        try simp only [Act.put, List.setIfInBounds_toArray, List.set_cons_zero, List.set_cons_succ]
        first
          | (refine wpAnyH_take (i := 18) (oi := _) (v := undef) (dropAt rfl) (by kernel_rfl) (by kernel_rfl) (by kernel_rfl) (fun _ _ _ h => h) (Or.inr ⟨by rfl, rfl⟩) (by assumption) ?_)
          | (refine wpAnyH_take (i := 18) (oi := _) (v := ?_) (dropAt rfl) (by kernel_rfl) (by kernel_rfl) (by kernel_rfl) (fun _ _ _ h => h) (Or.inl ⟨by rfl, ?_⟩) (by assumption) ?_; rotate_left; (focus (intro w2 hSw; (try dsimp only at hSw); go_simp; try with_reducible rfl)))
          | fail
        try simp only [Act.put, List.setIfInBounds_toArray, List.set_cons_zero, List.set_cons_succ]
        first
          | (refine wpAnyH_take (i := 19) (oi := _) (v := undef) (dropAt rfl) (by kernel_rfl) (by kernel_rfl) (by kernel_rfl) (fun _ _ _ h => h) (Or.inr ⟨by rfl, rfl⟩) (by assumption) ?_)
          | (refine wpAnyH_take (i := 19) (oi := _) (v := ?_) (dropAt rfl) (by kernel_rfl) (by kernel_rfl) (by kernel_rfl) (fun _ _ _ h => h) (Or.inl ⟨by rfl, ?_⟩) (by assumption) ?_; rotate_left; (focus (intro w2 hSw; (try dsimp only at hSw); go_simp; try with_reducible rfl)))
          | fail
        try simp only [Act.put, List.setIfInBounds_toArray, List.set_cons_zero, List.set_cons_succ]
        first
          | (refine wpAnyH_take (i := 20) (oi := _) (v := undef) (dropAt rfl) (by kernel_rfl) (by kernel_rfl) (by kernel_rfl) (fun _ _ _ h => h) (Or.inr ⟨by rfl, rfl⟩) (by assumption) ?_)
          | (refine wpAnyH_take (i := 20) (oi := _) (v := ?_) (dropAt rfl) (by kernel_rfl) (by kernel_rfl) (by kernel_rfl) (fun _ _ _ h => h) (Or.inl ⟨by rfl, ?_⟩) (by assumption) ?_; rotate_left; (focus (intro w2 hSw; (try dsimp only at hSw); go_simp; try with_reducible rfl)))
          | fail
        try simp only [Act.put, List.setIfInBounds_toArray, List.set_cons_zero, List.set_cons_succ]
        refine wpAnyH_done (by kernel_rfl) ?_ _
        refine NoPanic.normal ?_
        clear hHeld
        go_wp2
        go_ret
        exact ⟨rfl, HB8.out⟩
      · go_simp
        skip
        refine hK.out _ _ ?_ (fun hHeld9 => ?_)
        · exact HSS.out _ (HHH.out.alloc HHH.out.size _)
        clear hK K hHeld
        have hHeld := hHeld9
        clear hHeld9
        try simp only [Act.put, List.setIfInBounds_toArray, List.set_cons_zero, List.set_cons_succ]
        refine wpAnyH_ready (rs := [10]) (by kernel_rfl) (by simp) ?_
        refine AllReadyH.cons (o := _) (dropAt rfl) (fun K hK => ?_) AllReadyH.nil
        go_simp
        refine hK.out _ _ ?_ (fun hHeld => ?_)
        · exact HSS.out _ ((HHH.out.alloc HHH.out.size _).alloc (HHH.out.alloc HHH.out.size _).size _)
        clear hK K
        try simp only [Act.put, List.setIfInBounds_toArray, List.set_cons_zero, List.set_cons_succ]
        have HL := Lib.hid (And.intro ((show ((w9.alloc (.cells #[.string ⟨#[]⟩, .slice none 0 0] 48)).alloc (.cells #[.string ⟨#[]⟩, .slice none 0 0] 48)).heap[w9.heap.size + 1]? = some (.cells #[.string ⟨#[]⟩, .slice none 0 0] 48 (0, 0)) from by have h := heap_alloc_new (w9.alloc (.cells #[.string ⟨#[]⟩, .slice none 0 0] 48)) (.cells #[.string ⟨#[]⟩, .slice none 0 0] 48); rw [show (w9.alloc (.cells #[.string ⟨#[]⟩, .slice none 0 0] 48)).heap.size = w9.heap.size + 1 by simp] at h; exact h)) (And.intro ((Below.heap_alloc (w9.alloc (.cells #[.string ⟨#[]⟩, .slice none 0 0] 48)) (.cells #[.string ⟨#[]⟩, .slice none 0 0] 48) _ (by simp)).trans (heap_alloc_new w9 (.cells #[.string ⟨#[]⟩, .slice none 0 0] 48))) ((HHH.out.alloc HHH.out.size (.cells #[.string ⟨#[]⟩, .slice none 0 0] 48)).alloc (HHH.out.alloc HHH.out.size _).size (.cells #[.string ⟨#[]⟩, .slice none 0 0] 48))))
        refine wpAnyH_ready (rs := [13]) (by kernel_rfl) (by simp) ?_
        refine AllReadyH.cons (o := _) (dropAt rfl) (fun K hK => ?_) AllReadyH.nil
        go_simp
        (go_at_call 30; refine (sameRecs_true _ _ 1 1 1 1 [⟨⟨#[]⟩, []⟩] _ (slr_one (x := ⟨⟨#[]⟩, []⟩) (A := none) (n := 0) (c := 0) HL.out.1 (HRY.out.below HL.out.2.2)) (slr_one (x := ⟨⟨#[]⟩, []⟩) (A := none) (n := 0) (c := 0) HL.out.2.1 (HRZ.out.below HL.out.2.2)) (by omega)).mono ?_; rintro e w8 ⟨rfl, b8⟩)
        refine hK.out _ _ ?_ (fun hHeld => ?_)
        · exact HSS.out _ (HL.out.2.2.trans (b8.mono HL.out.2.2.size))
        clear hK K
        try simp only [Act.put, List.setIfInBounds_toArray, List.set_cons_zero, List.set_cons_succ]
        have HB8 := Lib.hid (HB4.out.trans ((HL.out.2.2.trans (b8.mono HL.out.2.2.size)).mono HB4.out.size))
        clear b8
        first
          | (refine wpAnyH_take (i := 14) (oi := _) (v := undef) (dropAt rfl) (by kernel_rfl) (by kernel_rfl) (by kernel_rfl) (fun _ _ _ h => h) (Or.inr ⟨by rfl, rfl⟩) (by assumption) ?_)
          | (refine wpAnyH_take (i := 14) (oi := _) (v := ?_) (dropAt rfl) (by kernel_rfl) (by kernel_rfl) (by kernel_rfl) (fun _ _ _ h => h) (Or.inl ⟨by rfl, ?_⟩) (by assumption) ?_; rotate_left; (focus (intro w2 hSw; (try dsimp only at hSw); go_simp; try with_reducible rfl)))
          | fail
        try simp only [Act.put, List.setIfInBounds_toArray, List.set_cons_zero, List.set_cons_succ]
        first
          | (refine wpAnyH_take (i := 15) (oi := _) (v := undef) (dropAt rfl) (by kernel_rfl) (by kernel_rfl) (by kernel_rfl) (fun _ _ _ h => h) (Or.inr ⟨by rfl, rfl⟩) (by assumption) ?_)
          | (refine wpAnyH_take (i := 15) (oi := _) (v := ?_) (dropAt rfl) (by kernel_rfl) (by kernel_rfl) (by kernel_rfl) (fun _ _ _ h => h) (Or.inl ⟨by rfl, ?_⟩) (by assumption) ?_; rotate_left; (focus (intro w2 hSw; (try dsimp only at hSw); go_simp; try with_reducible rfl)))
          | fail
        try simp only [Act.put, List.setIfInBounds_toArray, List.set_cons_zero, List.set_cons_succ]
        first
          | (refine wpAnyH_take (i := 16) (oi := _) (v := undef) (dropAt rfl) (by kernel_rfl) (by kernel_rfl) (by kernel_rfl) (fun _ _ _ h => h) (Or.inr ⟨by rfl, rfl⟩) (by assumption) ?_)
          | (refine wpAnyH_take (i := 16) (oi := _) (v := ?_) (dropAt rfl) (by kernel_rfl) (by kernel_rfl) (by kernel_rfl) (fun _ _ _ h => h) (Or.inl ⟨by rfl, ?_⟩) (by assumption) ?_; rotate_left; (focus (intro w2 hSw; (try dsimp only at hSw); go_simp; try with_reducible rfl)))
          | fail
        try simp only [Act.put, List.setIfInBounds_toArray, List.set_cons_zero, List.set_cons_succ]
        first
          | (refine wpAnyH_take (i := 17) (oi := _) (v := undef) (dropAt rfl) (by kernel_rfl) (by kernel_rfl) (by kernel_rfl) (fun _ _ _ h => h) (Or.inr ⟨by rfl, rfl⟩) (by assumption) ?_)
          | (refine wpAnyH_take (i := 17) (oi := _) (v := ?_) (dropAt rfl) (by kernel_rfl) (by kernel_rfl) (by kernel_rfl) (fun _ _ _ h => h) (Or.inl ⟨by rfl, ?_⟩) (by assumption) ?_; rotate_left; (focus (intro w2 hSw; (try dsimp only at hSw); go_simp; try with_reducible rfl)))
          | fail
        try simp only [Act.put, List.setIfInBounds_toArray, List.set_cons_zero, List.set_cons_succ]
        first
          | (refine wpAnyH_take (i := 18) (oi := _) (v := undef) (dropAt rfl) (by kernel_rfl) (by kernel_rfl) (by kernel_rfl) (fun _ _ _ h => h) (Or.inr ⟨by rfl, rfl⟩) (by assumption) ?_)
          | (refine wpAnyH_take (i := 18) (oi := _) (v := ?_) (dropAt rfl) (by kernel_rfl) (by kernel_rfl) (by kernel_rfl) (fun _ _ _ h => h) (Or.inl ⟨by rfl, ?_⟩) (by assumption) ?_; rotate_left; (focus (intro w2 hSw; (try dsimp only at hSw); go_simp; try with_reducible rfl)))
          | fail
        try simp only [Act.put, List.setIfInBounds_toArray, List.set_cons_zero, List.set_cons_succ]
        first
          | (refine wpAnyH_take (i := 19) (oi := _) (v := undef) (dropAt rfl) (by kernel_rfl) (by kernel_rfl) (by kernel_rfl) (fun _ _ _ h => h) (Or.inr ⟨by rfl, rfl⟩) (by assumption) ?_)
          | (refine wpAnyH_take (i := 19) (oi := _) (v := ?_) (dropAt rfl) (by kernel_rfl) (by kernel_rfl) (by kernel_rfl) (fun _ _ _ h => h) (Or.inl ⟨by rfl, ?_⟩) (by assumption) ?_; rotate_left; (focus (intro w2 hSw; (try dsimp only at hSw); go_simp; try with_reducible rfl)))
          | fail
        try simp only [Act.put, List.setIfInBounds_toArray, List.set_cons_zero, List.set_cons_succ]
        first
          | (refine wpAnyH_take (i := 20) (oi := _) (v := undef) (dropAt rfl) (by kernel_rfl) (by kernel_rfl) (by kernel_rfl) (fun _ _ _ h => h) (Or.inr ⟨by rfl, rfl⟩) (by assumption) ?_)
          | (refine wpAnyH_take (i := 20) (oi := _) (v := ?_) (dropAt rfl) (by kernel_rfl) (by kernel_rfl) (by kernel_rfl) (fun _ _ _ h => h) (Or.inl ⟨by rfl, ?_⟩) (by assumption) ?_; rotate_left; (focus (intro w2 hSw; (try dsimp only at hSw); go_simp; try with_reducible rfl)))
          | fail
        try simp only [Act.put, List.setIfInBounds_toArray, List.set_cons_zero, List.set_cons_succ]
        refine wpAnyH_done (by kernel_rfl) ?_ _
        refine NoPanic.normal ?_
        clear hHeld
        go_wp2
        go_ret
        exact ⟨rfl, HB8.out⟩
    | some x1 =>
      rw [ho] at C4
      have HO := Lib.hid ho
      have C4 := Lib.hid C4
      clear ho
      go_wp2_with fail
      refine C4.out.mono ?_
      rintro e w4 ⟨v4, rfl, ⟨rows4, A4, cc4, rfl, hr4, ho4, hc4, hk4, hn4⟩, b4⟩
      obtain ⟨yk, yv⟩ := x1
      simp only at hr4 ho4 hc4 hk4 hn4
      have bY : Below w4.heap.size w4 (w4.alloc (.cells #[.string yk, .slice A4 yv.length cc4] 48)) := (Below.refl _ _).alloc (Nat.le_refl _) _
      have b4Y := b4.trans (bY.mono b4.size)
      have hY := heap_alloc_new w4 (.cells #[.string yk, .slice A4 yv.length cc4] 48)
      have c5 := refRecTop_any (w4.alloc (.cells #[.string yk, .slice A4 yv.length cc4] 48)) a1 len1 cap1 l1 (Sl.below HS3.out b4Y) b1 (by omega)
      rw [HO.out] at c5
      have C5 := Lib.hid c5
      have HYB := Lib.hid (And.intro b4Y hY)
      have HRY4 := Lib.hid ((ho4.rrow hr4 hc4 hn4 hk4).below bY)
      clear c5 bY b4Y hY b4 C4 ho4 hr4
      go_wp2_with fail
      refine C5.out.mono ?_
      rintro e w5 ⟨v5, rfl, ⟨rows5, A5, cc5, rfl, hr5, ho5, hc5, hk5, hn5⟩, b5⟩
      simp only at hr5 ho5 hc5 hk5 hn5
      have bZ : Below w5.heap.size w5 (w5.alloc (.cells #[.string yk, .slice A5 yv.length cc5] 48)) := (Below.refl _ _).alloc (Nat.le_refl _) _
      have hZ := heap_alloc_new w5 (.cells #[.string yk, .slice A5 yv.length cc5] 48)
      have bq := (HYB.out.1.trans (b5.mono HYB.out.1.size)).trans (bZ.mono (HYB.out.1.trans (b5.mono HYB.out.1.size)).size)
      have hXY := (bZ.block _ (lt_of_block ((b5.block _ (lt_of_block HYB.out.2)).trans HYB.out.2))).trans ((b5.block _ (lt_of_block HYB.out.2)).trans HYB.out.2)
      have hRY := (HRY4.out.below b5).below bZ
      have hRZ := (ho5.rrow hr5 hc5 hn5 hk5).below bZ
      obtain ⟨w3, hw3⟩ : ∃ w3, w5.alloc (.cells #[.string yk, .slice A5 yv.length cc5] 48) = w3 := ⟨_, rfl⟩
      rw [hw3] at hZ bq hXY hRY hRZ
      have HXR := Lib.hid ((bq.block _ (lt_of_block HX.out)).trans HX.out)
      have HXY := Lib.hid hXY
      have HXZ := Lib.hid hZ
      have HRR := Lib.hid (HRR2.out.below bq)
      have HB4 := Lib.hid (HB3.out.trans (bq.mono HB3.out.size))
      have HRY := Lib.hid hRY
      have HRZ := Lib.hid hRZ
      have HW3 := Lib.hid hw3
      clear hw3 bZ hZ bq b5 C5 HYB HX HB3 HS3 HRR2 HO hXY hRY hRZ ho5 hr5 HRY4 hc4 hk4 hn4 hc5 hk5 hn5
      have HSS := Lib.hid (fun (W' : World) (bl : Below w3.heap.size w3 W') => And.intro ((bl.cell (p := ⟨W.heap.size, 0, none⟩) (lt_of_block HXR.out)).trans (row_cell (j := 0) HXR.out rfl)) (And.intro ((bl.cell (p := ⟨W.heap.size, 1, none⟩) (lt_of_block HXR.out)).trans (row_cell (j := 1) HXR.out rfl)) (And.intro ((bl.cell (p := ⟨w4.heap.size, 0, none⟩) (lt_of_block HXY.out)).trans (row_cell (j := 0) HXY.out rfl)) (And.intro ((bl.cell (p := ⟨w4.heap.size, 1, none⟩) (lt_of_block HXY.out)).trans (row_cell (j := 1) HXY.out rfl)) (And.intro ((bl.cell (p := ⟨w5.heap.size, 0, none⟩) (lt_of_block HXZ.out)).trans (row_cell (j := 0) HXZ.out rfl)) (And.intro ((bl.cell (p := ⟨w5.heap.size, 1, none⟩) (lt_of_block HXZ.out)).trans (row_cell (j := 1) HXZ.out rfl)) bl))))))
      go_wp2_with fail
      rw [HW3.out]
      refine wp_region_noPanic ?_
      refine wp_region_held_drew (S := (fun w' => w'.cell? ⟨W.heap.size, 0, none⟩ = some (.string key) ∧ w'.cell? ⟨W.heap.size, 1, none⟩ = some (.slice Ar nr cr) ∧ w'.cell? ⟨w4.heap.size, 0, none⟩ = some (.string yk) ∧ w'.cell? ⟨w4.heap.size, 1, none⟩ = some (.slice A4 yv.length cc4) ∧ w'.cell? ⟨w5.heap.size, 0, none⟩ = some (.string yk) ∧ w'.cell? ⟨w5.heap.size, 1, none⟩ = some (.slice A5 yv.length cc5) ∧ Below w3.heap.size w3 w')) (by kernel_rfl) ?_ (fun hHeld => ?_)
      · exact HSS.out _ (Below.refl _ _).drew
      refine wpAnyH_ready (rs := [0]) (by kernel_rfl) (by simp) ?_
      refine AllReadyH.cons (o := _) (dropAt rfl) (fun K hK => ?_) AllReadyH.nil
      go_simp
      (go_at_call 12; refine (awake_any _).mono ?_; rintro e w7 ⟨rfl, b7⟩)
      refine hK.out _ _ ?_ (fun hHeld => ?_)
      · exact HSS.out _ ((Below.refl _ _).drew.trans (b7.mono (by simp)))
      clear hK K
      try simp only [Act.put, List.setIfInBounds_toArray, List.set_cons_zero, List.set_cons_succ]
      first
        | (refine wpAnyH_take (i := 1) (oi := _) (v := undef) (dropAt rfl) (by kernel_rfl) (by kernel_rfl) (by kernel_rfl) (fun _ _ _ h => h) (Or.inr ⟨by rfl, rfl⟩) (by assumption) ?_)
        | (refine wpAnyH_take (i := 1) (oi := _) (v := ?_) (dropAt rfl) (by kernel_rfl) (by kernel_rfl) (by kernel_rfl) (fun _ _ _ h => h) (Or.inl ⟨by rfl, ?_⟩) (by assumption) ?_; rotate_left; (focus (intro w2 hSw; (try dsimp only at hSw); go_simp; try with_reducible rfl)))
        | fail
      try simp only [Act.put, List.setIfInBounds_toArray, List.set_cons_zero, List.set_cons_succ]
      first
        | (refine wpAnyH_take (i := 2) (oi := _) (v := undef) (dropAt rfl) (by kernel_rfl) (by kernel_rfl) (by kernel_rfl) (fun _ _ _ h => h) (Or.inr ⟨by rfl, rfl⟩) (by assumption) ?_)
        | (refine wpAnyH_take (i := 2) (oi := _) (v := ?_) (dropAt rfl) (by kernel_rfl) (by kernel_rfl) (by kernel_rfl) (fun _ _ _ h => h) (Or.inl ⟨by rfl, ?_⟩) (by assumption) ?_; rotate_left; (focus (intro w2 hSw; (try dsimp only at hSw); go_simp; try with_reducible rfl)))
        | fail
      try simp only [Act.put, List.setIfInBounds_toArray, List.set_cons_zero, List.set_cons_succ]
      first
        | (refine wpAnyH_take (i := 4) (oi := _) (v := undef) (dropAt rfl) (by kernel_rfl) (by kernel_rfl) (by kernel_rfl) (fun _ _ _ h => h) (Or.inr ⟨by rfl, rfl⟩) (by assumption) ?_)
        | (refine wpAnyH_take (i := 4) (oi := _) (v := ?_) (dropAt rfl) (by kernel_rfl) (by kernel_rfl) (by kernel_rfl) (fun _ _ _ h => h) (Or.inl ⟨by rfl, ?_⟩) (by assumption) ?_; rotate_left; (focus (intro w2 hSw; (try dsimp only at hSw); go_simp; try with_reducible rfl)))
        | fail
      try simp only [Act.put, List.setIfInBounds_toArray, List.set_cons_zero, List.set_cons_succ]
      have HHA := Lib.hid hHeld.2.2.2.2.2.2
      refine wpAnyH_ready (rs := [3]) (by kernel_rfl) (by simp) ?_
      refine AllReadyH.cons (o := _) (dropAt rfl) (fun K hK => ?_) AllReadyH.nil
      go_simp
      (go_at_call 29; refine (rightRec_any ⟨key, vers⟩ Ar nr cr _ (HRR.out.below HHA.out)).mono ?_; rintro e w8 ⟨rfl, b8⟩)
      refine hK.out _ _ ?_ (fun hHeld => ?_)
      · exact HSS.out _ (HHA.out.trans (b8.mono HHA.out.size))
      clear hK K
      try simp only [Act.put, List.setIfInBounds_toArray, List.set_cons_zero, List.set_cons_succ]
      have HHB := Lib.hid (HHA.out.trans (b8.mono HHA.out.size))
      clear b8
      refine wpAnyH_ready (rs := [5]) (by kernel_rfl) (by simp) ?_
      refine AllReadyH.cons (o := _) (dropAt rfl) (fun K hK => ?_) AllReadyH.nil
      go_simp
      (go_at_call 25; refine (refRightRec_any ⟨key, vers⟩ Ar nr cr _ (HRR.out.below HHB.out)).mono ?_; rintro e w9 ⟨rfl, b9⟩)
      refine hK.out _ _ ?_ (fun hHeld => ?_)
      · exact HSS.out _ (HHB.out.trans (b9.mono HHB.out.size))
      clear hK K
      try simp only [Act.put, List.setIfInBounds_toArray, List.set_cons_zero, List.set_cons_succ]
      clear b9
      first
        | (refine wpAnyH_take (i := 6) (oi := _) (v := undef) (dropAt rfl) (by kernel_rfl) (by kernel_rfl) (by kernel_rfl) (fun _ _ _ h => h) (Or.inr ⟨by rfl, rfl⟩) (by assumption) ?_)
        | (refine wpAnyH_take (i := 6) (oi := _) (v := ?_) (dropAt rfl) (by kernel_rfl) (by kernel_rfl) (by kernel_rfl) (fun _ _ _ h => h) (Or.inl ⟨by rfl, ?_⟩) (by assumption) ?_; rotate_left; (focus (intro w2 hSw; (try dsimp only at hSw); go_simp; try with_reducible rfl)))
        | fail
      try simp only [Act.put, List.setIfInBounds_toArray, List.set_cons_zero, List.set_cons_succ]
      first
        | (refine wpAnyH_take (i := 7) (oi := _) (v := undef) (dropAt rfl) (by kernel_rfl) (by kernel_rfl) (by kernel_rfl) (fun _ _ _ h => h) (Or.inr ⟨by rfl, rfl⟩) (by assumption) ?_)
        | (refine wpAnyH_take (i := 7) (oi := _) (v := ?_) (dropAt rfl) (by kernel_rfl) (by kernel_rfl) (by kernel_rfl) (fun _ _ _ h => h) (Or.inl ⟨by rfl, ?_⟩) (by assumption) ?_; rotate_left; (focus (intro w2 hSw; (try dsimp only at hSw); go_simp; try with_reducible rfl)))
        | fail
      try simp only [Act.put, List.setIfInBounds_toArray, List.set_cons_zero, List.set_cons_succ]
      first
        | (refine wpAnyH_take (i := 8) (oi := _) (v := undef) (dropAt rfl) (by kernel_rfl) (by kernel_rfl) (by kernel_rfl) (fun _ _ _ h => h) (Or.inr ⟨by rfl, rfl⟩) (by assumption) ?_)
        | (refine wpAnyH_take (i := 8) (oi := _) (v := ?_) (dropAt rfl) (by kernel_rfl) (by kernel_rfl) (by kernel_rfl) (fun _ _ _ h => h) (Or.inl ⟨by rfl, ?_⟩) (by assumption) ?_; rotate_left; (focus (intro w2 hSw; (try dsimp only at hSw); go_simp; try with_reducible rfl)))
        | fail
      try simp only [Act.put, List.setIfInBounds_toArray, List.set_cons_zero, List.set_cons_succ]
      first
        | (refine wpAnyH_take (i := 9) (oi := _) (v := undef) (dropAt rfl) (by kernel_rfl) (by kernel_rfl) (by kernel_rfl) (fun _ _ _ h => h) (Or.inr ⟨by rfl, rfl⟩) (by assumption) ?_)
        | (refine wpAnyH_take (i := 9) (oi := _) (v := ?_) (dropAt rfl) (by kernel_rfl) (by kernel_rfl) (by kernel_rfl) (fun _ _ _ h => h) (Or.inl ⟨by rfl, ?_⟩) (by assumption) ?_; rotate_left; (focus (intro w2 hSw; (try dsimp only at hSw); go_simp; try with_reducible rfl)))
        | fail
      try simp only [Act.put, List.setIfInBounds_toArray, List.set_cons_zero, List.set_cons_succ]
      first
        | (refine wpAnyH_take (i := 11) (oi := _) (v := undef) (dropAt rfl) (by kernel_rfl) (by kernel_rfl) (by kernel_rfl) (fun _ _ _ h => h) (Or.inr ⟨by rfl, rfl⟩) (by assumption) ?_)
        | (refine wpAnyH_take (i := 11) (oi := _) (v := ?_) (dropAt rfl) (by kernel_rfl) (by kernel_rfl) (by kernel_rfl) (fun _ _ _ h => h) (Or.inl ⟨by rfl, ?_⟩) (by assumption) ?_; rotate_left; (focus (intro w2 hSw; (try dsimp only at hSw); go_simp; try with_reducible rfl)))
        | fail
      try simp only [Act.put, List.setIfInBounds_toArray, List.set_cons_zero, List.set_cons_succ]
      have HHH := Lib.hid hHeld.2.2.2.2.2.2
      refine wpAnyH_ready (rs := [10, 12]) (by kernel_rfl) (by simp) ?_
      refine AllReadyH.cons (o := _) (dropAt rfl) (fun K hK => ?_) (AllReadyH.cons (o := _) (dropAt rfl) (fun K hK => ?_) AllReadyH.nil)
      · go_simp
        skip
        refine hK.out _ _ ?_ (fun hHeld9 => ?_)
        · exact HSS.out _ (HHH.out.alloc HHH.out.size _)
        clear hK K hHeld
        have hHeld := hHeld9
        clear hHeld9
        try simp only [Act.put, List.setIfInBounds_toArray, List.set_cons_zero, List.set_cons_succ]
        refine wpAnyH_ready (rs := [12]) (by kernel_rfl) (by simp) ?_
        refine AllReadyH.cons (o := _) (dropAt rfl) (fun K hK => ?_) AllReadyH.nil
        go_simp
        refine hK.out _ _ ?_ (fun hHeld => ?_)
        · exact HSS.out _ ((HHH.out.alloc HHH.out.size _).alloc (HHH.out.alloc HHH.out.size _).size _)
        clear hK K
        try simp only [Act.put, List.setIfInBounds_toArray, List.set_cons_zero, List.set_cons_succ]
        have HL := Lib.hid (And.intro ((Below.heap_alloc (w9.alloc (.cells #[.string yk, .slice A4 yv.length cc4] 48)) (.cells #[.string yk, .slice A5 yv.length cc5] 48) _ (by simp)).trans (heap_alloc_new w9 (.cells #[.string yk, .slice A4 yv.length cc4] 48))) (And.intro ((show ((w9.alloc (.cells #[.string yk, .slice A4 yv.length cc4] 48)).alloc (.cells #[.string yk, .slice A5 yv.length cc5] 48)).heap[w9.heap.size + 1]? = some (.cells #[.string yk, .slice A5 yv.length cc5] 48 (0, 0)) from by have h := heap_alloc_new (w9.alloc (.cells #[.string yk, .slice A4 yv.length cc4] 48)) (.cells #[.string yk, .slice A5 yv.length cc5] 48); rw [show (w9.alloc (.cells #[.string yk, .slice A4 yv.length cc4] 48)).heap.size = w9.heap.size + 1 by simp] at h; exact h)) ((HHH.out.alloc HHH.out.size (.cells #[.string yk, .slice A4 yv.length cc4] 48)).alloc (HHH.out.alloc HHH.out.size _).size (.cells #[.string yk, .slice A5 yv.length cc5] 48))))
        refine wpAnyH_ready (rs := [13]) (by kernel_rfl) (by simp) ?_
        refine AllReadyH.cons (o := _) (dropAt rfl) (fun K hK => ?_) AllReadyH.nil
        go_simp
        (go_at_call 30; refine (sameRecs_true _ _ 1 1 1 1 [⟨yk, yv⟩] _ (slr_one (x := ⟨yk, yv⟩) (A := A4) (n := yv.length) (c := cc4) HL.out.1 (HRY.out.below HL.out.2.2)) (slr_one (x := ⟨yk, yv⟩) (A := A5) (n := yv.length) (c := cc5) HL.out.2.1 (HRZ.out.below HL.out.2.2)) (by omega)).mono ?_; rintro e w8 ⟨rfl, b8⟩)
        refine hK.out _ _ ?_ (fun hHeld => ?_)
        · exact HSS.out _ (HL.out.2.2.trans (b8.mono HL.out.2.2.size))
        clear hK K
        try simp only [Act.put, List.setIfInBounds_toArray, List.set_cons_zero, List.set_cons_succ]
        have HB8 := Lib.hid (HB4.out.trans ((HL.out.2.2.trans (b8.mono HL.out.2.2.size)).mono HB4.out.size))
        clear b8
        first
          | (refine wpAnyH_take (i := 14) (oi := _) (v := undef) (dropAt rfl) (by kernel_rfl) (by kernel_rfl) (by kernel_rfl) (fun _ _ _ h => h) (Or.inr ⟨by rfl, rfl⟩) (by assumption) ?_)
          | (refine wpAnyH_take (i := 14) (oi := _) (v := ?_) (dropAt rfl) (by kernel_rfl) (by kernel_rfl) (by kernel_rfl) (fun _ _ _ h => h) (Or.inl ⟨by rfl, ?_⟩) (by assumption) ?_; rotate_left; (focus (intro w2 hSw; (try dsimp only at hSw); go_simp; try with_reducible rfl)))
          | fail
        try simp only [Act.put, List.setIfInBounds_toArray, List.set_cons_zero, List.set_cons_succ]
        first
          | (refine wpAnyH_take (i := 15) (oi := _) (v := undef) (dropAt rfl) (by kernel_rfl) (by kernel_rfl) (by kernel_rfl) (fun _ _ _ h => h) (Or.inr ⟨by rfl, rfl⟩) (by assumption) ?_)
          | (refine wpAnyH_take (i := 15) (oi := _) (v := ?_) (dropAt rfl) (by kernel_rfl) (by kernel_rfl) (by kernel_rfl) (fun _ _ _ h => h) (Or.inl ⟨by rfl, ?_⟩) (by assumption) ?_; rotate_left; (focus (intro w2 hSw; (try dsimp only at hSw); go_simp; try with_reducible rfl)))
          | fail
        try simp only [Act.put, List.setIfInBounds_toArray, List.set_cons_zero, List.set_cons_succ]
        first
          | (refine wpAnyH_take (i := 16) (oi := _) (v := undef) (dropAt rfl) (by kernel_rfl) (by kernel_rfl) (by kernel_rfl) (fun _ _ _ h => h) (Or.inr ⟨by rfl, rfl⟩) (by assumption) ?_)
          | (refine wpAnyH_take (i := 16) (oi := _) (v := ?_) (dropAt rfl) (by kernel_rfl) (by kernel_rfl) (by kernel_rfl) (fun _ _ _ h => h) (Or.inl ⟨by rfl, ?_⟩) (by assumption) ?_; rotate_left; (focus (intro w2 hSw; (try dsimp only at hSw); go_simp; try with_reducible rfl)))
          | fail
        try simp only [Act.put, List.setIfInBounds_toArray, List.set_cons_zero, List.set_cons_succ]
        first
          | (refine wpAnyH_take (i := 17) (oi := _) (v := undef) (dropAt rfl) (by kernel_rfl) (by kernel_rfl) (by kernel_rfl) (fun _ _ _ h => h) (Or.inr ⟨by rfl, rfl⟩) (by assumption) ?_)
          | (refine wpAnyH_take (i := 17) (oi := _) (v := ?_) (dropAt rfl) (by kernel_rfl) (by kernel_rfl) (by kernel_rfl) (fun _ _ _ h => h) (Or.inl ⟨by rfl, ?_⟩) (by assumption) ?_; rotate_left; (focus (intro w2 hSw; (try dsimp only at hSw); go_simp; try with_reducible rfl)))
          | fail
        try simp only [Act.put, List.setIfInBounds_toArray, List.set_cons_zero, List.set_cons_succ]
        first
          | (refine wpAnyH_take (i := 18) (oi := _) (v := undef) (dropAt rfl) (by kernel_rfl) (by kernel_rfl) (by kernel_rfl) (fun _ _ _ h => h) (Or.inr ⟨by rfl, rfl⟩) (by assumption) ?_)
          | (refine wpAnyH_take (i := 18) (oi := _) (v := ?_) (dropAt rfl) (by kernel_rfl) (by kernel_rfl) (by kernel_rfl) (fun _ _ _ h => h) (Or.inl ⟨by rfl, ?_⟩) (by assumption) ?_; rotate_left; (focus (intro w2 hSw; (try dsimp only at hSw); go_simp; try with_reducible rfl)))
          | fail
        try simp only [Act.put, List.setIfInBounds_toArray, List.set_cons_zero, List.set_cons_succ]
        first
          | (refine wpAnyH_take (i := 19) (oi := _) (v := undef) (dropAt rfl) (by kernel_rfl) (by kernel_rfl) (by kernel_rfl) (fun _ _ _ h => h) (Or.inr ⟨by rfl, rfl⟩) (by assumption) ?_)
          | (refine wpAnyH_take (i := 19) (oi := _) (v := ?_) (dropAt rfl) (by kernel_rfl) (by kernel_rfl) (by kernel_rfl) (fun _ _ _ h => h) (Or.inl ⟨by rfl, ?_⟩) (by assumption) ?_; rotate_left; (focus (intro w2 hSw; (try dsimp only at hSw); go_simp; try with_reducible rfl)))
          | fail
        try simp only [Act.put, List.setIfInBounds_toArray, List.set_cons_zero, List.set_cons_succ]
        first
          | (refine wpAnyH_take (i := 20) (oi := _) (v := undef) (dropAt rfl) (by kernel_rfl) (by kernel_rfl) (by kernel_rfl) (fun _ _ _ h => h) (Or.inr ⟨by rfl, rfl⟩) (by assumption) ?_)
          | (refine wpAnyH_take (i := 20) (oi := _) (v := ?_) (dropAt rfl) (by kernel_rfl) (by kernel_rfl) (by kernel_rfl) (fun _ _ _ h => h) (Or.inl ⟨by rfl, ?_⟩) (by assumption) ?_; rotate_left; (focus (intro w2 hSw; (try dsimp only at hSw); go_simp; try with_reducible rfl)))
          | fail
        try simp only [Act.put, List.setIfInBounds_toArray, List.set_cons_zero, List.set_cons_succ]
        refine wpAnyH_done (by kernel_rfl) ?_ _
        refine NoPanic.normal ?_
        clear hHeld
        go_wp2
        go_ret
        exact ⟨rfl, HB8.out⟩
      · go_simp
        skip
        refine hK.out _ _ ?_ (fun hHeld9 => ?_)
        · exact HSS.out _ (HHH.out.alloc HHH.out.size _)
        clear hK K hHeld
        have hHeld := hHeld9
        clear hHeld9
        try simp only [Act.put, List.setIfInBounds_toArray, List.set_cons_zero, List.set_cons_succ]
        refine wpAnyH_ready (rs := [10]) (by kernel_rfl) (by simp) ?_
        refine AllReadyH.cons (o := _) (dropAt rfl) (fun K hK => ?_) AllReadyH.nil
        go_simp
        refine hK.out _ _ ?_ (fun hHeld => ?_)
        · exact HSS.out _ ((HHH.out.alloc HHH.out.size _).alloc (HHH.out.alloc HHH.out.size _).size _)
        clear hK K
        try simp only [Act.put, List.setIfInBounds_toArray, List.set_cons_zero, List.set_cons_succ]
        have HL := Lib.hid (And.intro ((show ((w9.alloc (.cells #[.string yk, .slice A5 yv.length cc5] 48)).alloc (.cells #[.string yk, .slice A4 yv.length cc4] 48)).heap[w9.heap.size + 1]? = some (.cells #[.string yk, .slice A4 yv.length cc4] 48 (0, 0)) from by have h := heap_alloc_new (w9.alloc (.cells #[.string yk, .slice A5 yv.length cc5] 48)) (.cells #[.string yk, .slice A4 yv.length cc4] 48); rw [show (w9.alloc (.cells #[.string yk, .slice A5 yv.length cc5] 48)).heap.size = w9.heap.size + 1 by simp] at h; exact h)) (And.intro ((Below.heap_alloc (w9.alloc (.cells #[.string yk, .slice A5 yv.length cc5] 48)) (.cells #[.string yk, .slice A4 yv.length cc4] 48) _ (by simp)).trans (heap_alloc_new w9 (.cells #[.string yk, .slice A5 yv.length cc5] 48))) ((HHH.out.alloc HHH.out.size (.cells #[.string yk, .slice A5 yv.length cc5] 48)).alloc (HHH.out.alloc HHH.out.size _).size (.cells #[.string yk, .slice A4 yv.length cc4] 48))))
        refine wpAnyH_ready (rs := [13]) (by kernel_rfl) (by simp) ?_
        refine AllReadyH.cons (o := _) (dropAt rfl) (fun K hK => ?_) AllReadyH.nil
        go_simp
        (go_at_call 30; refine (sameRecs_true _ _ 1 1 1 1 [⟨yk, yv⟩] _ (slr_one (x := ⟨yk, yv⟩) (A := A4) (n := yv.length) (c := cc4) HL.out.1 (HRY.out.below HL.out.2.2)) (slr_one (x := ⟨yk, yv⟩) (A := A5) (n := yv.length) (c := cc5) HL.out.2.1 (HRZ.out.below HL.out.2.2)) (by omega)).mono ?_; rintro e w8 ⟨rfl, b8⟩)
        refine hK.out _ _ ?_ (fun hHeld => ?_)
        · exact HSS.out _ (HL.out.2.2.trans (b8.mono HL.out.2.2.size))
        clear hK K
        try simp only [Act.put, List.setIfInBounds_toArray, List.set_cons_zero, List.set_cons_succ]
        have HB8 := Lib.hid (HB4.out.trans ((HL.out.2.2.trans (b8.mono HL.out.2.2.size)).mono HB4.out.size))
        clear b8
        first
          | (refine wpAnyH_take (i := 14) (oi := _) (v := undef) (dropAt rfl) (by kernel_rfl) (by kernel_rfl) (by kernel_rfl) (fun _ _ _ h => h) (Or.inr ⟨by rfl, rfl⟩) (by assumption) ?_)
          | (refine wpAnyH_take (i := 14) (oi := _) (v := ?_) (dropAt rfl) (by kernel_rfl) (by kernel_rfl) (by kernel_rfl) (fun _ _ _ h => h) (Or.inl ⟨by rfl, ?_⟩) (by assumption) ?_; rotate_left; (focus (intro w2 hSw; (try dsimp only at hSw); go_simp; try with_reducible rfl)))
          | fail
        try simp only [Act.put, List.setIfInBounds_toArray, List.set_cons_zero, List.set_cons_succ]
        first
          | (refine wpAnyH_take (i := 15) (oi := _) (v := undef) (dropAt rfl) (by kernel_rfl) (by kernel_rfl) (by kernel_rfl) (fun _ _ _ h => h) (Or.inr ⟨by rfl, rfl⟩) (by assumption) ?_)
          | (refine wpAnyH_take (i := 15) (oi := _) (v := ?_) (dropAt rfl) (by kernel_rfl) (by kernel_rfl) (by kernel_rfl) (fun _ _ _ h => h) (Or.inl ⟨by rfl, ?_⟩) (by assumption) ?_; rotate_left; (focus (intro w2 hSw; (try dsimp only at hSw); go_simp; try with_reducible rfl)))
          | fail
        try simp only [Act.put, List.setIfInBounds_toArray, List.set_cons_zero, List.set_cons_succ]
        first
          | (refine wpAnyH_take (i := 16) (oi := _) (v := undef) (dropAt rfl) (by kernel_rfl) (by kernel_rfl) (by kernel_rfl) (fun _ _ _ h => h) (Or.inr ⟨by rfl, rfl⟩) (by assumption) ?_)
          | (refine wpAnyH_take (i := 16) (oi := _) (v := ?_) (dropAt rfl) (by kernel_rfl) (by kernel_rfl) (by kernel_rfl) (fun _ _ _ h => h) (Or.inl ⟨by rfl, ?_⟩) (by assumption) ?_; rotate_left; (focus (intro w2 hSw; (try dsimp only at hSw); go_simp; try with_reducible rfl)))
          | fail
        try simp only [Act.put, List.setIfInBounds_toArray, List.set_cons_zero, List.set_cons_succ]
        first
          | (refine wpAnyH_take (i := 17) (oi := _) (v := undef) (dropAt rfl) (by kernel_rfl) (by kernel_rfl) (by kernel_rfl) (fun _ _ _ h => h) (Or.inr ⟨by rfl, rfl⟩) (by assumption) ?_)
          | (refine wpAnyH_take (i := 17) (oi := _) (v := ?_) (dropAt rfl) (by kernel_rfl) (by kernel_rfl) (by kernel_rfl) (fun _ _ _ h => h) (Or.inl ⟨by rfl, ?_⟩) (by assumption) ?_; rotate_left; (focus (intro w2 hSw; (try dsimp only at hSw); go_simp; try with_reducible rfl)))
          | fail
        try simp only [Act.put, List.setIfInBounds_toArray, List.set_cons_zero, List.set_cons_succ]
        first
          | (refine wpAnyH_take (i := 18) (oi := _) (v := undef) (dropAt rfl) (by kernel_rfl) (by kernel_rfl) (by kernel_rfl) (fun _ _ _ h => h) (Or.inr ⟨by rfl, rfl⟩) (by assumption) ?_)
          | (refine wpAnyH_take (i := 18) (oi := _) (v := ?_) (dropAt rfl) (by kernel_rfl) (by kernel_rfl) (by kernel_rfl) (fun _ _ _ h => h) (Or.inl ⟨by rfl, ?_⟩) (by assumption) ?_; rotate_left; (focus (intro w2 hSw; (try dsimp only at hSw); go_simp; try with_reducible rfl)))
          | fail
        try simp only [Act.put, List.setIfInBounds_toArray, List.set_cons_zero, List.set_cons_succ]
        first
          | (refine wpAnyH_take (i := 19) (oi := _) (v := undef) (dropAt rfl) (by kernel_rfl) (by kernel_rfl) (by kernel_rfl) (fun _ _ _ h => h) (Or.inr ⟨by rfl, rfl⟩) (by assumption) ?_)
          | (refine wpAnyH_take (i := 19) (oi := _) (v := ?_) (dropAt rfl) (by kernel_rfl) (by kernel_rfl) (by kernel_rfl) (fun _ _ _ h => h) (Or.inl ⟨by rfl, ?_⟩) (by assumption) ?_; rotate_left; (focus (intro w2 hSw; (try dsimp only at hSw); go_simp; try with_reducible rfl)))
          | fail
        try simp only [Act.put, List.setIfInBounds_toArray, List.set_cons_zero, List.set_cons_succ]
        first
          | (refine wpAnyH_take (i := 20) (oi := _) (v := undef) (dropAt rfl) (by kernel_rfl) (by kernel_rfl) (by kernel_rfl) (fun _ _ _ h => h) (Or.inr ⟨by rfl, rfl⟩) (by assumption) ?_)
          | (refine wpAnyH_take (i := 20) (oi := _) (v := ?_) (dropAt rfl) (by kernel_rfl) (by kernel_rfl) (by kernel_rfl) (fun _ _ _ h => h) (Or.inl ⟨by rfl, ?_⟩) (by assumption) ?_; rotate_left; (focus (intro w2 hSw; (try dsimp only at hSw); go_simp; try with_reducible rfl)))
          | fail
        try simp only [Act.put, List.setIfInBounds_toArray, List.set_cons_zero, List.set_cons_succ]
        refine wpAnyH_done (by kernel_rfl) ?_ _
        refine NoPanic.normal ?_
        clear hHeld
        go_wp2
        go_ret
        exact ⟨rfl, HB8.out⟩
theorem codeRecs_walk (cs : List Value) (x : recSh.T) (a : Option Addr) (len cap : Nat) (l : List UInt8) (W : World) (s0 : Rd W recSh cs x) (u0 : shB recSh x ≤ 1048576) (s1 : SlB W a len l) (b1 : len ≤ cap) (z1 : cap * 1 ≤ 140737488351232) (hsum : cap ≤ 1048576) :
    Calls Try.prog 9 #[.agg cs.toArray, .slice a len cap] W (BoolE W true) := by
  obtain ⟨A, n, c, hcs, hr⟩ := rc_open s0
  rw [hcs]
  exact codeRecs_in (rcOf x) A n c a len cap l W hr s1 b1 (by omega)
end Go.Proofs.Ytgnedaihchmoaaa
