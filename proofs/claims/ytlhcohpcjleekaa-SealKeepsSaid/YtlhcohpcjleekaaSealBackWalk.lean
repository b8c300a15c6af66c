/-
  firthlaw13.SealBack: the walk.
-/
import Derived.Test.YtlhcohpcjleekaaSealOpensWalk
namespace Go.Proofs.Ytlhcohpcjleekaa
open Go.RowKit
set_option linter.unusedVariables false

set_option maxHeartbeats 4000000 in
set_option maxRecDepth 100000 in
theorem sealBack_any (s s' : ByteArray) (g g' : Int) (B : Option Addr) (nl kl : Nat) (l : List Sp) (w : World) (hz : s.size ≤ 140737488351232) (hz' : s'.size ≤ 140737488351232) (hg : g ≤ 9223372036854775807)
    (hs : SlS w B nl l) (hnl : nl ≤ 140737488351232) :
    Calls Try.prog 5 #[.agg #[.string s, .int .i64 g], .agg #[.string s', .int .i64 g'], .slice B nl kl] w fun e w' => e = .returned (.bool true) ∧ Below w.heap.size w w' := by
  have b1 := (Below.refl w.heap.size w).alloc (Nat.le_refl _) (.cells #[.string s, .int .i64 g] 23)
  have b2 := b1.alloc b1.size (.cells #[.string s', .int .i64 g'] 23)
  have hK2 := BoxK.new (w.alloc (.cells #[.string s, .int .i64 g] 23)) s' g'
  rw [show (w.alloc (.cells #[.string s, .int .i64 g] 23)).heap.size = w.heap.size + 1 by simp] at hK2
  have HK := Lib.hid ((BoxK.new w s g).below ((Below.refl _ _).alloc (Nat.le_refl _) (.cells #[.string s', .int .i64 g'] 23)))
  have HJ := Lib.hid hK2
  have HA := Lib.hid b2
  have hll := hs.len
  have HS := Lib.hid hs
  have C1 := Lib.hid (seal_any s g B nl kl l _ (Sl.below hs b2) hnl hz hg)
  have C5 := Lib.hid (fun W : World => awakeS_any W)
  have k0 := HK.out.c0
  have k1 := HK.out.c1
  clear hs b1 b2 hK2
  by_cases hok : mayB s g = true ∧ rightS l = true
  · rw [sealE_yes hok] at C1
    obtain ⟨body, hbody⟩ : ∃ body, bodyB g l = body := ⟨_, rfl⟩
    have hb1 := bodyB_len g l
    have hbx : (bodyB g l).length ≤ 30020 := by
      have := setB_len (rightS_true.1 hok.2).2
      have := putNum_len g
      unfold bodyB
      rw [List.length_append, List.length_append]
      simp only [List.length_cons, List.length_nil]
      omega
    have hl9 : l.length ≤ 1024 := (rightS_true.1 hok.2).2
    have hmm := mayB_true.1 hok.1
    have hO1 := openE_seal (s := s) (g' := g) (markB_len s (bodyB g l)) hok.2 hmm.2.2 hg
    have hO2 := openE_seal (s := s') (g' := g') (markB_len s (bodyB g l)) hok.2 hmm.2.2 hg
    rw [if_neg (by rw [hok.1]; decide), if_neg (by simp), if_neg (by simp)] at hO1
    rw [hbody] at C1 hb1 hbx hO1 hO2
    have hmk := markB_len s body
    obtain ⟨mk, hmkd⟩ : ∃ mk, markB s body = mk := ⟨_, rfl⟩
    rw [hmkd] at C1 hO1 hO2 hmk
    have O1 := Lib.hid hO1
    have O2 := Lib.hid hO2
    have C7 := Lib.hid (fun W : World => refMay_any s' g' W hz')
    clear hbody hmkd hok hO1 hO2
    go_enter Try.func5, Try.ntmps5
    go_wp2_with fail
    refine C1.out.mono ?_
    rintro e w1 ⟨A1, n1, c1, rfl, s1, hc1, -, b1, -⟩
    have hn1 : (body ++ mk).length = n1 := s1.len
    rw [List.length_append] at hn1
    have HB1 := Lib.hid (HA.out.trans (b1.mono HA.out.size))
    have HK1 := Lib.hid (HK.out.below b1)
    have HJ1 := Lib.hid (HJ.out.below b1)
    have HS1 := Lib.hid s1
    clear b1 s1 k0 k1 C1
    go_wp2_with fail
    refine (C5.out _).mono ?_
    rintro e w2 ⟨rfl, b2⟩
    have HB2 := Lib.hid (HB1.out.trans (b2.mono HB1.out.size))
    have HJ2 := Lib.hid (HJ1.out.below b2)
    have HK2 := Lib.hid (HK1.out.below b2)
    have HS2 := Lib.hid (show SlB w2 A1 n1 (body ++ mk) from HS1.out.below b2)
    have k0 := HK2.out.c0
    have k1 := HK2.out.c1
    have c3 := sealOpen_any s g A1 n1 c1 _ w2 HS2.out hc1 (by omega) hz
    rw [O1.out] at c3
    have C3 := Lib.hid c3
    clear b2 c3
    go_wp2_with fail
    refine C3.out.mono ?_
    rintro e w3 ⟨A3, n3, c3, rfl, own3, hc3, b3⟩
    have hl3 := own3.1
    rw [spV_length] at hl3
    have hl3' : l.length = n3 := by omega
    have HB3 := Lib.hid (HB2.out.trans (b3.mono HB2.out.size))
    have HJ3 := Lib.hid (HJ2.out.below b3)
    have HK3 := Lib.hid (HK2.out.below b3)
    have HS3 := Lib.hid (show SlB w3 A1 n1 (body ++ mk) from HS2.out.below b3)
    have c4 := sameS_any A3 B n3 nl c3 kl l l w3 (Sl.of_own own3) (Sl.below HS.out HB3.out) (by omega)
    rw [show (l == l) = true from by simp] at c4
    have C4 := Lib.hid c4
    clear own3 b3 c4 C3 k0 k1 hl3
    go_wp2_with fail
    refine C4.out.mono ?_
    rintro e w4 ⟨rfl, k4, rfl⟩
    have bk := below_drewN (Below.refl w3.heap.size w3) k4
    have HB4 := Lib.hid (HB3.out.trans (bk.mono HB3.out.size))
    have HJ4 := Lib.hid (HJ3.out.below bk)
    have HK4 := Lib.hid (HK3.out.below bk)
    have HS4 := Lib.hid (show SlB _ A1 n1 (body ++ mk) from HS3.out.below bk)
    clear bk C4
    generalize w3.drewN k4 = w4 at *
    have j0 := HJ4.out.c0
    have j1 := HJ4.out.c1
    have C6 := Lib.hid (sealOpen_any s' g' A1 n1 c1 _ w4 HS4.out hc1 (by omega) hz')
    obtain ⟨P, hP⟩ : ∃ P, openE s' g' (body ++ mk) = P := ⟨_, rfl⟩
    rw [hP] at C6
    have hO2 := O2.out
    rw [hP] at hO2
    have hPl : P.1.length ≤ 1024 := by rw [← hP]; exact openE_len _ _ _
    have O2 := Lib.hid hO2
    clear hP hO2
    go_wp2_with fail
    refine C6.out.mono ?_
    rintro e w5 ⟨A5, n5, c5, rfl, own5, hc5, b5⟩
    have hl5 := own5.1
    rw [spV_length] at hl5
    have hl5' : P.1.length = n5 := by omega
    have HB5 := Lib.hid (HB4.out.trans (b5.mono HB4.out.size))
    have HJ5 := Lib.hid (HJ4.out.below b5)
    have HK5 := Lib.hid (HK4.out.below b5)
    have HS5 := Lib.hid (show SlB w5 A1 n1 (body ++ mk) from HS4.out.below b5)
    clear own5 b5 C6 j0 j1 hl5
    have j0 := HJ5.out.c0
    have j1 := HJ5.out.c1
    have k1 := HK5.out.c1
    go_wp2_with fail
    refine (C7.out _).mono ?_
    rintro e w6 ⟨rfl, rfl⟩
    cases hm : mayB s' g'
    · have hO2 := O2.out
      rw [if_pos hm] at hO2
      subst hO2
      simp only
      clear hm
      go_wp2
      go_ret
      exact ⟨rfl, HB5.out⟩
    · have hO2 := O2.out
      rw [if_neg (by rw [hm]; decide)] at hO2
      have hm2 := mayB_true.1 hm
      clear hm
      by_cases hgg : g = g'
      · subst hgg
        rw [if_neg (by simp)] at hO2
        have e8 : ((n1 : Int) - 8).toNat = n1 - 8 := by omega
        have w8 : IntKind.i64.wrap ((n1 : Int) - 8) = (n1 : Int) - 8 := IntWalk.i64_in _ (by omega)
        have i8 : (0 : Int) ≤ (n1 : Int) - 8 := by omega
        have i9 : (n1 : Int) - 8 ≤ (n1 : Int) := by omega
        have i7 : (8 : Int) ≤ (n1 : Int) := by omega
        have i6 : (n1 : Int) - 8 ≤ (c1 : Int) := by omega
        have hne : ¬ c1 = n1 - 8 := by omega
        obtain ⟨bb, off, c0, rfl, -, -, -⟩ := HS5.out.at_ (k := 0) (by omega)
        have HI := Lib.hid (show SlB w6 (some ⟨bb, off, none⟩) (n1 - 8) body from by
          have := SlB.part HS5.out (from_ := 0) (m := n1 - 8) (by omega)
          rwa [Nat.add_zero, List.drop_zero, List.take_left' (by omega)] at this)
        have HKK := Lib.hid (show SlB w6 (some ⟨bb, off + (n1 - 8), none⟩) (n1 - (n1 - 8)) mk from by
          have := SlB.part HS5.out (from_ := n1 - 8) (m := n1 - (n1 - 8)) (by omega)
          rwa [List.drop_left' (by omega), List.take_of_length_le (by omega)] at this)
        have C8 := Lib.hid (refMark_any s' _ _ c1 body _ (HI.out.below (Below.refl w6.heap.size w6).drew) (by omega) (by omega))
        have HSS := Lib.hid (fun (W : World) (bl : Below w6.heap.size w6 W) => And.intro (HJ5.out.below bl).c0 (bytes_conv (HKK.out.below bl) (c1 - (n1 - 8))))
        have O2 := Lib.hid hO2
        have q0 : ((g : Int) != g) = false := by simp
        clear hO2
        go_wp2_with fail
        refine wp_region_noPanic ?_
        refine wp_region_held_drew (S := (fun w' => w'.cell? ⟨w.heap.size + 1, 0, none⟩ = some (.string s') ∧ (convert 25 9 (.slice (some ⟨bb, off + (n1 - 8), none⟩) (n1 - (n1 - 8)) (c1 - (n1 - 8)))).run Try.prog w' = .ok (.string ⟨mk.toArray⟩) w')) (by kernel_rfl) ?_ (fun hHeld => ?_)
        · exact HSS.out _ (Below.refl _ _).drew
        first
          | (refine wpAnyH_take (i := 0) (oi := _) (v := undef) (dropAt rfl) (by kernel_rfl) (by kernel_rfl) (by kernel_rfl) (fun _ _ _ h => h) (Or.inr ⟨by rfl, rfl⟩) (by assumption) ?_)
          | (refine wpAnyH_take (i := 0) (oi := _) (v := ?_) (dropAt rfl) (by kernel_rfl) (by kernel_rfl) (by kernel_rfl) (fun _ _ _ h => h) (Or.inl ⟨by rfl, ?_⟩) (by assumption) ?_; rotate_left; (focus (intro w2 hSw; (try dsimp only at hSw); go_simp; try with_reducible rfl)))
          | fail
        try simp only [Act.put, List.setIfInBounds_toArray, List.set_cons_zero, List.set_cons_succ]
        first
          | (refine wpAnyH_take (i := 1) (oi := _) (v := undef) (dropAt rfl) (by kernel_rfl) (by kernel_rfl) (by kernel_rfl) (fun _ _ _ h => h) (Or.inr ⟨by rfl, rfl⟩) (by assumption) ?_)
          | (refine wpAnyH_take (i := 1) (oi := _) (v := ?_) (dropAt rfl) (by kernel_rfl) (by kernel_rfl) (by kernel_rfl) (fun _ _ _ h => h) (Or.inl ⟨by rfl, ?_⟩) (by assumption) ?_; rotate_left; (focus (intro w2 hSw; (try dsimp only at hSw); go_simp; try with_reducible rfl)))
          | fail
        try simp only [Act.put, List.setIfInBounds_toArray, List.set_cons_zero, List.set_cons_succ]
        first
          | (refine wpAnyH_take (i := 2) (oi := _) (v := undef) (dropAt rfl) (by kernel_rfl) (by kernel_rfl) (by kernel_rfl) (fun _ _ _ h => h) (Or.inr ⟨by rfl, rfl⟩) (by assumption) ?_)
          | (refine wpAnyH_take (i := 2) (oi := _) (v := ?_) (dropAt rfl) (by kernel_rfl) (by kernel_rfl) (by kernel_rfl) (fun _ _ _ h => h) (Or.inl ⟨by rfl, ?_⟩) (by assumption) ?_; rotate_left; (focus (intro w2 hSw; (try dsimp only at hSw); go_simp; try with_reducible rfl)))
          | fail
        try simp only [Act.put, List.setIfInBounds_toArray, List.set_cons_zero, List.set_cons_succ]
        first
          | (refine wpAnyH_take (i := 3) (oi := _) (v := undef) (dropAt rfl) (by kernel_rfl) (by kernel_rfl) (by kernel_rfl) (fun _ _ _ h => h) (Or.inr ⟨by rfl, rfl⟩) (by assumption) ?_)
          | (refine wpAnyH_take (i := 3) (oi := _) (v := ?_) (dropAt rfl) (by kernel_rfl) (by kernel_rfl) (by kernel_rfl) (fun _ _ _ h => h) (Or.inl ⟨by rfl, ?_⟩) (by assumption) ?_; rotate_left; (focus (intro w2 hSw; (try dsimp only at hSw); go_simp; try with_reducible rfl)))
          | fail
        try simp only [Act.put, List.setIfInBounds_toArray, List.set_cons_zero, List.set_cons_succ]
        first
          | (refine wpAnyH_take (i := 4) (oi := _) (v := undef) (dropAt rfl) (by kernel_rfl) (by kernel_rfl) (by kernel_rfl) (fun _ _ _ h => h) (Or.inr ⟨by rfl, rfl⟩) (by assumption) ?_)
          | (refine wpAnyH_take (i := 4) (oi := _) (v := ?_) (dropAt rfl) (by kernel_rfl) (by kernel_rfl) (by kernel_rfl) (fun _ _ _ h => h) (Or.inl ⟨by rfl, ?_⟩) (by assumption) ?_; rotate_left; (focus (intro w2 hSw; (try dsimp only at hSw); go_simp; try with_reducible rfl)))
          | fail
        try simp only [Act.put, List.setIfInBounds_toArray, List.set_cons_zero, List.set_cons_succ]
        first
          | (refine wpAnyH_take (i := 7) (oi := _) (v := undef) (dropAt rfl) (by kernel_rfl) (by kernel_rfl) (by kernel_rfl) (fun _ _ _ h => h) (Or.inr ⟨by rfl, rfl⟩) (by assumption) ?_)
          | (refine wpAnyH_take (i := 7) (oi := _) (v := ?_) (dropAt rfl) (by kernel_rfl) (by kernel_rfl) (by kernel_rfl) (fun _ _ _ h => h) (Or.inl ⟨by rfl, ?_⟩) (by assumption) ?_; rotate_left; (focus (intro w2 hSw; (try dsimp only at hSw); go_simp; try with_reducible rfl)))
          | fail
        try simp only [Act.put, List.setIfInBounds_toArray, List.set_cons_zero, List.set_cons_succ]
        first
          | (refine wpAnyH_take (i := 8) (oi := _) (v := undef) (dropAt rfl) (by kernel_rfl) (by kernel_rfl) (by kernel_rfl) (fun _ _ _ h => h) (Or.inr ⟨by rfl, rfl⟩) (by assumption) ?_)
          | (refine wpAnyH_take (i := 8) (oi := _) (v := ?_) (dropAt rfl) (by kernel_rfl) (by kernel_rfl) (by kernel_rfl) (fun _ _ _ h => h) (Or.inl ⟨by rfl, ?_⟩) (by assumption) ?_; rotate_left; (focus (intro w2 hSw; (try dsimp only at hSw); go_simp; try with_reducible rfl)))
          | fail
        try simp only [Act.put, List.setIfInBounds_toArray, List.set_cons_zero, List.set_cons_succ]
        first
          | (refine wpAnyH_take (i := 9) (oi := _) (v := undef) (dropAt rfl) (by kernel_rfl) (by kernel_rfl) (by kernel_rfl) (fun _ _ _ h => h) (Or.inr ⟨by rfl, rfl⟩) (by assumption) ?_)
          | (refine wpAnyH_take (i := 9) (oi := _) (v := ?_) (dropAt rfl) (by kernel_rfl) (by kernel_rfl) (by kernel_rfl) (fun _ _ _ h => h) (Or.inl ⟨by rfl, ?_⟩) (by assumption) ?_; rotate_left; (focus (intro w2 hSw; (try dsimp only at hSw); go_simp; try with_reducible rfl)))
          | fail
        try simp only [Act.put, List.setIfInBounds_toArray, List.set_cons_zero, List.set_cons_succ]
        first
          | (refine wpAnyH_take (i := 10) (oi := _) (v := undef) (dropAt rfl) (by kernel_rfl) (by kernel_rfl) (by kernel_rfl) (fun _ _ _ h => h) (Or.inr ⟨by rfl, rfl⟩) (by assumption) ?_)
          | (refine wpAnyH_take (i := 10) (oi := _) (v := ?_) (dropAt rfl) (by kernel_rfl) (by kernel_rfl) (by kernel_rfl) (fun _ _ _ h => h) (Or.inl ⟨by rfl, ?_⟩) (by assumption) ?_; rotate_left; (focus (intro w2 hSw; (try dsimp only at hSw); go_simp; try with_reducible rfl)))
          | fail
        try simp only [Act.put, List.setIfInBounds_toArray, List.set_cons_zero, List.set_cons_succ]
        refine wpAnyH_ready (rs := [5]) (by kernel_rfl) (by simp) ?_
        refine AllReadyH.cons (o := _) (dropAt rfl) (fun K hK => ?_) AllReadyH.nil
        go_simp
        (go_at_call 13; refine C8.out.mono ?_; rintro e w7 ⟨A7, c7, rfl, hc7, s7, b7⟩)
        refine hK.out _ _ ?_ (fun hHeld => ?_)
        · exact HSS.out _ ((Below.refl _ _).drew.trans b7)
        clear hK K
        try simp only [Act.put, List.setIfInBounds_toArray, List.set_cons_zero, List.set_cons_succ]
        have hcv := bytes_conv s7 c7
        have HB7 := Lib.hid (HB5.out.trans ((Below.refl w6.heap.size w6).drew.trans b7 |>.mono HB5.out.size))
        clear s7 b7
        refine wpAnyH_ready (rs := [6]) (by kernel_rfl) (by simp) ?_
        refine AllReadyH.cons (o := _) (dropAt rfl) (fun K hK => ?_) AllReadyH.nil
        go_simp
        refine hK.out _ _ ?_ (fun hHeld => ?_)
        · exact hHeld
        clear hK K
        try simp only [Act.put, List.setIfInBounds_toArray, List.set_cons_zero, List.set_cons_succ]
        by_cases hmk2 : markB s' body = mk
        · have hO2 := O2.out
          rw [if_neg (by simpa using hmk2.symm)] at hO2
          subst hO2
          have q7 : (markB s' body == mk) = true := beq_iff_eq.2 hmk2
          clear hmk2
          first
            | (refine wpAnyH_take (i := 11) (oi := _) (v := undef) (dropAt rfl) (by kernel_rfl) (by kernel_rfl) (by kernel_rfl) (fun _ _ _ h => h) (Or.inr ⟨by rfl, rfl⟩) (by assumption) ?_)
            | (refine wpAnyH_take (i := 11) (oi := _) (v := ?_) (dropAt rfl) (by kernel_rfl) (by kernel_rfl) (by kernel_rfl) (fun _ _ _ h => h) (Or.inl ⟨by rfl, ?_⟩) (by assumption) ?_; rotate_left; (focus (intro w2 hSw; (try dsimp only at hSw); go_simp; try with_reducible rfl)))
            | fail
          try simp only [Act.put, List.setIfInBounds_toArray, List.set_cons_zero, List.set_cons_succ]
          first
            | (refine wpAnyH_take (i := 12) (oi := _) (v := undef) (dropAt rfl) (by kernel_rfl) (by kernel_rfl) (by kernel_rfl) (fun _ _ _ h => h) (Or.inr ⟨by rfl, rfl⟩) (by assumption) ?_)
            | (refine wpAnyH_take (i := 12) (oi := _) (v := ?_) (dropAt rfl) (by kernel_rfl) (by kernel_rfl) (by kernel_rfl) (fun _ _ _ h => h) (Or.inl ⟨by rfl, ?_⟩) (by assumption) ?_; rotate_left; (focus (intro w2 hSw; (try dsimp only at hSw); go_simp; try with_reducible rfl)))
            | fail
          try simp only [Act.put, List.setIfInBounds_toArray, List.set_cons_zero, List.set_cons_succ]
          refine wpAnyH_done (by kernel_rfl) ?_ _
          refine NoPanic.normal ?_
          clear hHeld hcv
          go_wp2
          go_ret
          exact ⟨rfl, HB7.out⟩
        · have hO2 := O2.out
          rw [if_pos (fun h => hmk2 h.symm)] at hO2
          subst hO2
          simp only [List.length_nil] at hl5'
          subst hl5'
          have q7 : (markB s' body == mk) = false := beq_eq_false_iff_ne.2 hmk2
          clear hmk2
          first
            | (refine wpAnyH_take (i := 11) (oi := _) (v := undef) (dropAt rfl) (by kernel_rfl) (by kernel_rfl) (by kernel_rfl) (fun _ _ _ h => h) (Or.inr ⟨by rfl, rfl⟩) (by assumption) ?_)
            | (refine wpAnyH_take (i := 11) (oi := _) (v := ?_) (dropAt rfl) (by kernel_rfl) (by kernel_rfl) (by kernel_rfl) (fun _ _ _ h => h) (Or.inl ⟨by rfl, ?_⟩) (by assumption) ?_; rotate_left; (focus (intro w2 hSw; (try dsimp only at hSw); go_simp; try with_reducible rfl)))
            | fail
          try simp only [Act.put, List.setIfInBounds_toArray, List.set_cons_zero, List.set_cons_succ]
          first
            | (refine wpAnyH_take (i := 12) (oi := _) (v := undef) (dropAt rfl) (by kernel_rfl) (by kernel_rfl) (by kernel_rfl) (fun _ _ _ h => h) (Or.inr ⟨by rfl, rfl⟩) (by assumption) ?_)
            | (refine wpAnyH_take (i := 12) (oi := _) (v := ?_) (dropAt rfl) (by kernel_rfl) (by kernel_rfl) (by kernel_rfl) (fun _ _ _ h => h) (Or.inl ⟨by rfl, ?_⟩) (by assumption) ?_; rotate_left; (focus (intro w2 hSw; (try dsimp only at hSw); go_simp; try with_reducible rfl)))
            | fail
          try simp only [Act.put, List.setIfInBounds_toArray, List.set_cons_zero, List.set_cons_succ]
          refine wpAnyH_done (by kernel_rfl) ?_ _
          refine NoPanic.normal ?_
          clear hHeld hcv
          go_wp2
          go_ret
          exact ⟨rfl, HB7.out⟩
      · rw [if_pos hgg] at hO2
        subst hO2
        simp only [List.length_nil] at hl5'
        subst hl5'
        have q0 : (g' == g) = false := beq_eq_false_iff_ne.2 (fun h => hgg h.symm)
        have q1 : (g' != g) = true := bne_iff_ne.2 (fun h => hgg h.symm)
        go_wp2
        go_ret
        exact ⟨rfl, HB5.out⟩
  · rw [sealE_no hok] at C1
    clear hok
    go_enter Try.func5, Try.ntmps5
    go_wp2_with fail
    refine C1.out.mono ?_
    rintro e w1 ⟨A1, n1, c1, rfl, s1, hc1, -, b1, -⟩
    have hn1 : n1 = 0 := s1.len.symm
    subst hn1
    have HB1 := Lib.hid (HA.out.trans (b1.mono HA.out.size))
    clear s1 b1 k0 k1 C1
    go_wp2_with fail
    refine (C5.out _).mono ?_
    rintro e w2 ⟨rfl, b2⟩
    have HB2 := Lib.hid (HB1.out.trans (b2.mono HB1.out.size))
    clear b2
    go_wp2_with fail
    refine (C5.out _).mono ?_
    rintro e w3 ⟨rfl, b3⟩
    have HB3 := Lib.hid (HB2.out.trans (b3.mono HB2.out.size))
    clear b3
    go_wp2
    go_ret
    exact ⟨rfl, HB3.out⟩
set_option maxRecDepth 100000 in
theorem sealBack_walk (a0 : List Value) (x0 : keySh.T) (a1 : List Value) (x1 : keySh.T) (a2 : Option Addr) (len2 cap2 : Nat) (l2 : List Sp) (w : World)
    (t0 : Rd w keySh a0 x0) (t1 : Rd w keySh a1 x1) (s2 : SlS w a2 len2 l2) (f2 : ∀ x ∈ l2, wfSp x) (b2 : len2 ≤ cap2) (z2 : cap2 * 24 ≤ 140737488351232) :
    Calls Try.prog 5 #[.agg a0.toArray, .agg a1.toArray, .slice a2 len2 cap2] w fun e w' => e = .returned (.bool true) ∧ Below w.heap.size w w' := by
  obtain ⟨s, g, rfl, rfl, hz, hg0, hg1⟩ := key_open t0
  obtain ⟨s', g', rfl, rfl, hz', hg0', hg1'⟩ := key_open t1
  exact sealBack_any s s' g g' a2 len2 cap2 l2 w hz hz' hg1 s2 (by omega)
end Go.Proofs.Ytlhcohpcjleekaa
