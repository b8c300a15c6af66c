/-
  firthref13.Open answers what seal.Open does.
-/
import Derived.Test.YtlhcohpcjleekaaSealOpen
namespace Go.Proofs.Ytlhcohpcjleekaa
open Go.RowKit
set_option linter.unusedVariables false

theorem innerR_first {l : List UInt8} (h : innerR l ≠ none) : rdNum l = .ok (1, 1) := by
  cases l with
  | nil => exact absurd rfl h
  | cons x r =>
    by_cases hx : x = 1
    · subst hx
      unfold rdNum rdN
      rw [if_neg (by decide), if_pos (by decide)]
      rfl
    · exfalso
      apply h
      unfold innerR
      simp only
      rw [if_neg hx]
theorem first_one {l : List UInt8} {k : Nat} (h : rdNum l = .ok (1, k)) : k = 1 ∧ l[0]? = some (UInt8.ofNat 1) := by
  obtain ⟨h1, h2, h3, _, h5⟩ := rdNum_ok h
  have e : putN 8 1 = [UInt8.ofNat 1] := by decide
  rw [e] at h5
  have h6 := congrArg List.length h5
  rw [List.length_take] at h6
  simp only [List.length_cons, List.length_nil] at h6
  have hk : k = 1 := by omega
  subst hk
  refine ⟨rfl, ?_⟩
  cases l with
  | nil => simp at h3
  | cons x r => simpa using h5
theorem openE_none {s : ByteArray} {g : Int} {b : List UInt8} (h : mayB s g = true) (h0 : ¬ b.length = 0) (hi : b.length < 9 ∨ innerR (b.take (b.length - 8)) = none) : openE s g b = ([], 130) := by
  by_cases h9 : b.length < 9
  · exact openE_short h h0 h9
  · exact openE_bad h h9 (hi.resolve_left h9)
set_option maxHeartbeats 4000000 in
set_option maxRecDepth 100000 in
theorem refOpen_any (s : ByteArray) (g : Int) (A : Option Addr) (n c : Nat) (b : List UInt8) (w : World) (hs : SlB w A n b) (hc : n ≤ c) (h9 : n ≤ 4000000000000) (hz : s.size ≤ 140737488351232) :
    Calls Try.prog 15 #[.string s, .int .i64 g, .slice A n c] w (NewSpansE w (openE s g b).1 (openE s g b).2) := by
  have hll := hs.len
  have HS := Lib.hid hs
  have C2 := Lib.hid (refMay_any s g w hz)
  clear hs
  cases hm : mayB s g
  · have HO := Lib.hid (openE_may (b := b) hm)
    rw [hm] at C2
    clear hm
    go_enter Try.func15, Try.ntmps15
    go_wp2_with fail
    refine C2.out.mono ?_
    rintro e w2 ⟨rfl, rfl⟩
    go_wp2
    go_ret2
    exact NewSpansE.nil HO.out (Below.refl _ _)
  · have hmm := mayB_true.1 hm
    rw [hm] at C2
    by_cases h0 : n = 0
    · have HO := Lib.hid (openE_nil (b := b) hm (by omega))
      subst h0
      clear hm
      go_enter Try.func15, Try.ntmps15
      go_wp2_with fail
      refine C2.out.mono ?_
      rintro e w2 ⟨rfl, rfl⟩
      go_wp2
      go_ret2
      exact NewSpansE.nil HO.out (Below.refl _ _)
    · have q0 : ((n : Int) == 0) = false := by rw [beq_eq_false_iff_ne]; omega
      have w8 : IntKind.i64.wrap ((n : Int) - 8) = (n : Int) - 8 := IntWalk.i64_in _ (by omega)
      by_cases h8 : n < 8
      · have HO := Lib.hid (openE_short (b := b) hm (by omega) (by omega))
        have q1 : decide ((n : Int) - 8 < 0) = true := decide_eq_true (by omega)
        clear hm
        go_enter Try.func15, Try.ntmps15
        go_wp2_with fail
        refine C2.out.mono ?_
        rintro e w2 ⟨rfl, rfl⟩
        go_wp2
        go_ret2
        exact NewSpansE.nil HO.out (Below.refl _ _)
      · have q1 : decide ((n : Int) - 8 < 0) = false := decide_eq_false (by omega)
        obtain ⟨bb, off, c0, rfl, -, -, -⟩ := HS.out.at_ (k := 0) (by omega)
        have e8 : ((n : Int) - 8).toNat = n - 8 := by omega
        have i8 : (0 : Int) ≤ (n : Int) - 8 := by omega
        have i9 : (n : Int) - 8 ≤ (n : Int) := by omega
        have i7 : (8 : Int) ≤ (n : Int) := by omega
        have i6 : (n : Int) - 8 ≤ (c : Int) := by omega
        have hne : ¬ c = n - 8 := by omega
        have HI := Lib.hid (show SlB w (some ⟨bb, off, none⟩) (n - 8) (b.take (b.length - 8)) from by
          have := SlB.part HS.out (from_ := 0) (m := n - 8) (by omega)
          rw [Nat.add_zero, List.drop_zero] at this
          rw [hll]; exact this)
        have HK := Lib.hid (show SlB w (some ⟨bb, off + (n - 8), none⟩) (n - (n - 8)) (b.drop (b.length - 8)) from by
          have := SlB.part HS.out (from_ := n - 8) (m := n - (n - 8)) (by omega)
          rw [List.take_of_length_le (by rw [List.length_drop]; omega)] at this
          rw [hll]; exact this)
        have HON := Lib.hid (fun hi => openE_none (s := s) (g := g) (b := b) hm (by omega) hi)
        have HOA := Lib.hid (fun h9 g' l hi => openE_at (s := s) (g := g) (b := b) hm h9 (g' := g') (l := l) hi)
        obtain ⟨inn, hinn⟩ : ∃ inn, b.take (b.length - 8) = inn := ⟨_, rfl⟩
        obtain ⟨mk, hmk⟩ : ∃ mk, b.drop (b.length - 8) = mk := ⟨_, rfl⟩
        rw [hinn] at HI HON HOA
        rw [hmk] at HK HOA
        have hil := HI.out.len
        have HBL := Lib.hid hll
        clear hinn hmk hm
        cases hr0 : rdNum inn with
        | error x =>
          have hx : x = 2 ∨ x = 4 := rdN_err _ _ _ _ hr0
          have hx0 : (x == 0) = false := by rw [beq_eq_false_iff_ne]; omega
          have hx1 : (x != 0) = true := by rw [bne_iff_ne]; omega
          have C4 := Lib.hid (show Calls _ _ #[.slice (some ⟨bb, off, none⟩) (n - 8) c, .int .i64 0] w _ from refNum_err (at_ := 0) HI.out (by omega) (by omega) (by omega) (by rw [List.drop_zero]; exact hr0))
          have HO := Lib.hid (HON.out (.inr (by
            cases hi : innerR inn with
            | none => rfl
            | some p => have := innerR_first (by rw [hi]; simp); rw [hr0] at this; cases this)))
          clear hr0 hx
          go_enter Try.func15, Try.ntmps15
          go_wp2_with fail
          refine C2.out.mono ?_
          rintro e w2 ⟨rfl, rfl⟩
          go_wp2_with fail
          refine C4.out.mono ?_
          rintro e w4 ⟨rfl, rfl⟩
          go_wp2
          go_ret2
          exact NewSpansE.nil HO.out (Below.refl _ _)
        | ok p0 =>
          obtain ⟨one, k0⟩ := p0
          have C4 := Lib.hid (show Calls _ _ #[.slice (some ⟨bb, off, none⟩) (n - 8) c, .int .i64 0] w _ from refNum_ok (at_ := 0) HI.out (by omega) (by omega) (by omega) (by rw [List.drop_zero]; exact hr0))
          by_cases h1 : one = 1
          · subst h1
            obtain ⟨hk0, hb0⟩ := first_one hr0
            subst hk0
            have HB0 := Lib.hid hb0
            have hi1 : 1 ≤ n - 8 := by
              have := (rdNum_ok hr0).2.2.1
              omega
            have hb9 : ¬ b.length < 9 := by omega
            clear hr0 hb0
            cases hr : rdNum (inn.drop 1) with
            | error x =>
              have hx : x = 2 ∨ x = 4 := rdN_err _ _ _ _ hr
              have hx0 : (x == 0) = false := by rw [beq_eq_false_iff_ne]; omega
              have hx1 : (x != 0) = true := by rw [bne_iff_ne]; omega
              have C5 := Lib.hid (show Calls _ _ #[.slice (some ⟨bb, off, none⟩) (n - 8) c, .int .i64 1] w _ from refNum_err (at_ := 1) HI.out (by omega) (by omega) (by omega) hr)
              have HO := Lib.hid (HON.out (.inr (innerR_num HB0.out hr)))
              clear hr hx
              go_enter Try.func15, Try.ntmps15
              go_wp2_with fail
              refine C2.out.mono ?_
              rintro e w2 ⟨rfl, rfl⟩
              go_wp2_with fail
              refine C4.out.mono ?_
              rintro e w4 ⟨rfl, rfl⟩
              go_wp2_with fail
              refine C5.out.mono ?_
              rintro e w5 ⟨rfl, rfl⟩
              go_wp2
              go_ret2
              exact NewSpansE.nil HO.out (Below.refl _ _)
            | ok p =>
              obtain ⟨g', k⟩ := p
              obtain ⟨k1, k9, kl, kg, -⟩ := rdNum_ok hr
              rw [List.length_drop] at kl
              have C5 := Lib.hid (show Calls _ _ #[.slice (some ⟨bb, off, none⟩) (n - 8) c, .int .i64 1] w _ from refNum_ok (at_ := 1) HI.out (by omega) (by omega) (by omega) hr)
              have HAT := Lib.hid (innerR_at HB0.out hr)
              clear hr
              have hne2 : ¬ c = 1 + k := by omega
              have i1 : 1 + k ≤ n - 8 := by omega
              have HP := Lib.hid (show SlB w (some ⟨bb, off + (1 + k), none⟩) (n - 8 - (1 + k)) (inn.drop (1 + k)) from by
                have := SlB.part HI.out (from_ := 1 + k) (m := n - 8 - (1 + k)) (by omega)
                rwa [List.take_of_length_le (by rw [List.length_drop]; omega)] at this)
              have c6 := refSet_any w _ _ (c - (1 + k)) _ HP.out (by omega) (by omega)
              go_enter Try.func15, Try.ntmps15
              go_wp2_with fail
              refine C2.out.mono ?_
              rintro e w2 ⟨rfl, rfl⟩
              go_wp2_with fail
              refine C4.out.mono ?_
              rintro e w4 ⟨rfl, rfl⟩
              go_wp2_with fail
              refine C5.out.mono ?_
              rintro e w5 ⟨rfl, rfl⟩
              clear C2 C4 C5
              cases ho : setR okP (inn.drop (1 + k)) with
              | none =>
                rw [ho] at c6
                have C6 := Lib.hid c6
                have HO := Lib.hid (HON.out (.inr (by rw [HAT.out, ho])))
                clear c6 ho
                go_wp2_with fail
                refine C6.out.mono ?_
                rintro e w6 ⟨rfl, b6⟩
                have HB6 := Lib.hid b6
                clear b6 C6
                go_wp2
                go_ret2
                exact NewSpansE.nil HO.out HB6.out
              | some l =>
                rw [ho] at c6
                have C6 := Lib.hid c6
                have HO := Lib.hid (HOA.out hb9 g' l (by rw [HAT.out, ho]))
                clear c6 ho
                go_wp2_with fail
                refine C6.out.mono ?_
                rintro e w6 ⟨A5, n5, c5, rfl, own5, hc5, b6⟩
                have HB6 := Lib.hid b6
                have HL6 := Lib.hid own5
                have HI6 := Lib.hid (show SlB w6 _ _ inn from HI.out.below b6)
                have HK6 := Lib.hid (show SlB w6 _ _ mk from HK.out.below b6)
                clear own5 b6 C6 HP HI HK HS
                by_cases hg : (g' : Int) = g
                · subst hg
                  have HO2 := HO.out
                  rw [if_neg (by simp)] at HO2
                  have HO := Lib.hid HO2
                  clear HO2
                  have bD := (Below.refl w6.heap.size w6).drew
                  have C7 := Lib.hid (refMark_any s _ _ c inn _ (HI6.out.below bD) (by omega) (by omega))
                  have HCV := Lib.hid (fun (W : World) (h : SlB W (some ⟨bb, off + (n - 8), none⟩) (n - (n - 8)) mk) => run_convert_SlB (P := Try.prog) h 25 5 9 Try.underlying25 Try.underlying5 Try.underlying9 (c - (n - 8)))
                  clear bD
                  go_wp2_with fail
                  refine wp_region_noPanic ?_
                  refine wp_region_held_drew (S := (fun w' => (convert 25 9 (.slice (some ⟨bb, off + (n - 8), none⟩) (n - (n - 8)) (c - (n - 8)))).run Try.prog w' = .ok (.string ⟨mk.toArray⟩) w')) (by kernel_rfl) ?_ (fun hHeld => ?_)
                  · exact HCV.out _ (HK6.out.below (Below.refl _ _).drew)
                  first
                    | (refine wpAnyH_take (i := 0) (oi := _) (v := undef) (dropAt rfl) (by kernel_rfl) (by kernel_rfl) (by kernel_rfl) (fun _ _ _ h => h) (Or.inr ⟨by rfl, rfl⟩) (by assumption) ?_)
                    | (refine wpAnyH_take (i := 0) (oi := _) (v := ?_) (dropAt rfl) (by kernel_rfl) (by kernel_rfl) (by kernel_rfl) (fun _ _ _ h => h) (Or.inl ⟨by rfl, ?_⟩) (by assumption) ?_; rotate_left; (focus (intro w2 hSw; (try dsimp only at hSw); go_simp; try with_reducible rfl)))
                    | fail
                  try simp only [Act.put, List.setIfInBounds_toArray, List.set_cons_zero, List.set_cons_succ]
                  first
                    | (refine wpAnyH_take (i := 1) (oi := _) (v := undef) (dropAt rfl) (by kernel_rfl) (by kernel_rfl) (by kernel_rfl) (fun _ _ _ h => h) (Or.inr ⟨by rfl, rfl⟩) (by assumption) ?_)
                    | (refine wpAnyH_take (i := 1) (oi := _) (v := ?_) (dropAt rfl) (by kernel_rfl) (by kernel_rfl) (by kernel_rfl) (fun _ _ _ h => h) (Or.inl ⟨by rfl, ?_⟩) (by assumption) ?_; rotate_left; (focus (intro w2 hSw; (try dsimp only at hSw); go_simp; try with_reducible rfl)))
                    | fail
                  try simp only [Act.put, List.setIfInBounds_toArray, List.set_cons_zero, List.set_cons_succ]
                  first
                    | (refine wpAnyH_take (i := 2) (oi := _) (v := undef) (dropAt rfl) (by kernel_rfl) (by kernel_rfl) (by kernel_rfl) (fun _ _ _ h => h) (Or.inr ⟨by rfl, rfl⟩) (by assumption) ?_)
                    | (refine wpAnyH_take (i := 2) (oi := _) (v := ?_) (dropAt rfl) (by kernel_rfl) (by kernel_rfl) (by kernel_rfl) (fun _ _ _ h => h) (Or.inl ⟨by rfl, ?_⟩) (by assumption) ?_; rotate_left; (focus (intro w2 hSw; (try dsimp only at hSw); go_simp; try with_reducible rfl)))
                    | fail
                  try simp only [Act.put, List.setIfInBounds_toArray, List.set_cons_zero, List.set_cons_succ]
                  first
                    | (refine wpAnyH_take (i := 3) (oi := _) (v := undef) (dropAt rfl) (by kernel_rfl) (by kernel_rfl) (by kernel_rfl) (fun _ _ _ h => h) (Or.inr ⟨by rfl, rfl⟩) (by assumption) ?_)
                    | (refine wpAnyH_take (i := 3) (oi := _) (v := ?_) (dropAt rfl) (by kernel_rfl) (by kernel_rfl) (by kernel_rfl) (fun _ _ _ h => h) (Or.inl ⟨by rfl, ?_⟩) (by assumption) ?_; rotate_left; (focus (intro w2 hSw; (try dsimp only at hSw); go_simp; try with_reducible rfl)))
                    | fail
                  try simp only [Act.put, List.setIfInBounds_toArray, List.set_cons_zero, List.set_cons_succ]
                  first
                    | (refine wpAnyH_take (i := 4) (oi := _) (v := undef) (dropAt rfl) (by kernel_rfl) (by kernel_rfl) (by kernel_rfl) (fun _ _ _ h => h) (Or.inr ⟨by rfl, rfl⟩) (by assumption) ?_)
                    | (refine wpAnyH_take (i := 4) (oi := _) (v := ?_) (dropAt rfl) (by kernel_rfl) (by kernel_rfl) (by kernel_rfl) (fun _ _ _ h => h) (Or.inl ⟨by rfl, ?_⟩) (by assumption) ?_; rotate_left; (focus (intro w2 hSw; (try dsimp only at hSw); go_simp; try with_reducible rfl)))
                    | fail
                  try simp only [Act.put, List.setIfInBounds_toArray, List.set_cons_zero, List.set_cons_succ]
                  first
                    | (refine wpAnyH_take (i := 5) (oi := _) (v := undef) (dropAt rfl) (by kernel_rfl) (by kernel_rfl) (by kernel_rfl) (fun _ _ _ h => h) (Or.inr ⟨by rfl, rfl⟩) (by assumption) ?_)
                    | (refine wpAnyH_take (i := 5) (oi := _) (v := ?_) (dropAt rfl) (by kernel_rfl) (by kernel_rfl) (by kernel_rfl) (fun _ _ _ h => h) (Or.inl ⟨by rfl, ?_⟩) (by assumption) ?_; rotate_left; (focus (intro w2 hSw; (try dsimp only at hSw); go_simp; try with_reducible rfl)))
                    | fail
                  try simp only [Act.put, List.setIfInBounds_toArray, List.set_cons_zero, List.set_cons_succ]
                  first
                    | (refine wpAnyH_take (i := 6) (oi := _) (v := undef) (dropAt rfl) (by kernel_rfl) (by kernel_rfl) (by kernel_rfl) (fun _ _ _ h => h) (Or.inr ⟨by rfl, rfl⟩) (by assumption) ?_)
                    | (refine wpAnyH_take (i := 6) (oi := _) (v := ?_) (dropAt rfl) (by kernel_rfl) (by kernel_rfl) (by kernel_rfl) (fun _ _ _ h => h) (Or.inl ⟨by rfl, ?_⟩) (by assumption) ?_; rotate_left; (focus (intro w2 hSw; (try dsimp only at hSw); go_simp; try with_reducible rfl)))
                    | fail
                  try simp only [Act.put, List.setIfInBounds_toArray, List.set_cons_zero, List.set_cons_succ]
                  first
                    | (refine wpAnyH_take (i := 7) (oi := _) (v := undef) (dropAt rfl) (by kernel_rfl) (by kernel_rfl) (by kernel_rfl) (fun _ _ _ h => h) (Or.inr ⟨by rfl, rfl⟩) (by assumption) ?_)
                    | (refine wpAnyH_take (i := 7) (oi := _) (v := ?_) (dropAt rfl) (by kernel_rfl) (by kernel_rfl) (by kernel_rfl) (fun _ _ _ h => h) (Or.inl ⟨by rfl, ?_⟩) (by assumption) ?_; rotate_left; (focus (intro w2 hSw; (try dsimp only at hSw); go_simp; try with_reducible rfl)))
                    | fail
                  try simp only [Act.put, List.setIfInBounds_toArray, List.set_cons_zero, List.set_cons_succ]
                  refine wpAnyH_ready (rs := [8]) (by kernel_rfl) (by simp) ?_
                  refine AllReadyH.cons (o := _) (dropAt rfl) (fun K hK => ?_) AllReadyH.nil
                  go_simp
                  (go_at_call 13; refine C7.out.mono ?_; rintro e w7 ⟨A7, c7, rfl, hc7, s7, b7⟩)
                  refine hK.out _ _ ?_ (fun hHeld => ?_)
                  · exact HCV.out _ ((HK6.out.below (Below.refl _ _).drew).below b7)
                  clear hK K
                  try simp only [Act.put, List.setIfInBounds_toArray, List.set_cons_zero, List.set_cons_succ]
                  have hcv := run_convert_SlB (P := Try.prog) s7 25 5 9 Try.underlying25 Try.underlying5 Try.underlying9 c7
                  have HB7 := Lib.hid (HB6.out.trans ((Below.refl w6.heap.size w6).drew.trans b7 |>.mono HB6.out.size))
                  have HL7 := Lib.hid (own_below HL6.out ((Below.refl w6.heap.size w6).drew.trans b7))
                  clear s7 b7
                  refine wpAnyH_ready (rs := [9]) (by kernel_rfl) (by simp) ?_
                  refine AllReadyH.cons (o := _) (dropAt rfl) (fun K hK => ?_) AllReadyH.nil
                  go_simp
                  refine hK.out _ _ ?_ (fun hHeld => ?_)
                  · assumption
                  clear hK K
                  try simp only [Act.put, List.setIfInBounds_toArray, List.set_cons_zero, List.set_cons_succ]
                  by_cases hmk : mk = markB s inn
                  · have q7 : (mk == markB s inn) = true := beq_iff_eq.2 hmk
                    have q8 : (mk != markB s inn) = false := by rw [bne, q7]; rfl
                    have HO2 := HO.out
                    rw [if_neg (by simpa using hmk)] at HO2
                    have HO := Lib.hid HO2
                    clear HO2 hmk
                    first
                      | (refine wpAnyH_take (i := 10) (oi := _) (v := undef) (dropAt rfl) (by kernel_rfl) (by kernel_rfl) (by kernel_rfl) (fun _ _ _ h => h) (Or.inr ⟨by rfl, rfl⟩) (by assumption) ?_)
                      | (refine wpAnyH_take (i := 10) (oi := _) (v := ?_) (dropAt rfl) (by kernel_rfl) (by kernel_rfl) (by kernel_rfl) (fun _ _ _ h => h) (Or.inl ⟨by rfl, ?_⟩) (by assumption) ?_; rotate_left; (focus (intro w2 hSw; (try dsimp only at hSw); go_simp; try with_reducible rfl)))
                      | fail
                    try simp only [Act.put, List.setIfInBounds_toArray, List.set_cons_zero, List.set_cons_succ]
                    refine wpAnyH_done (by kernel_rfl) ?_ _
                    refine NoPanic.normal ?_
                    clear hHeld hcv
                    go_wp2
                    go_ret2
                    rw [HO.out]
                    exact ⟨A5, n5, c5, rfl, HL7.out, hc5, HB7.out⟩
                  · have q7 : (mk == markB s inn) = false := beq_eq_false_iff_ne.2 hmk
                    have q8 : (mk != markB s inn) = true := by rw [bne, q7]; rfl
                    have HO2 := HO.out
                    rw [if_pos hmk] at HO2
                    have HO := Lib.hid HO2
                    clear HO2 hmk
                    first
                      | (refine wpAnyH_take (i := 10) (oi := _) (v := undef) (dropAt rfl) (by kernel_rfl) (by kernel_rfl) (by kernel_rfl) (fun _ _ _ h => h) (Or.inr ⟨by rfl, rfl⟩) (by assumption) ?_)
                      | (refine wpAnyH_take (i := 10) (oi := _) (v := ?_) (dropAt rfl) (by kernel_rfl) (by kernel_rfl) (by kernel_rfl) (fun _ _ _ h => h) (Or.inl ⟨by rfl, ?_⟩) (by assumption) ?_; rotate_left; (focus (intro w2 hSw; (try dsimp only at hSw); go_simp; try with_reducible rfl)))
                      | fail
                    try simp only [Act.put, List.setIfInBounds_toArray, List.set_cons_zero, List.set_cons_succ]
                    refine wpAnyH_done (by kernel_rfl) ?_ _
                    refine NoPanic.normal ?_
                    clear hHeld hcv
                    go_wp2
                    go_ret2
                    exact NewSpansE.nil HO.out HB7.out
                · have q5 : ((g' : Int) == g) = false := beq_eq_false_iff_ne.2 hg
                  have q6 : ((g' : Int) != g) = true := bne_iff_ne.2 hg
                  have HO2 := HO.out
                  rw [if_pos hg] at HO2
                  have HO := Lib.hid HO2
                  clear HO2
                  go_wp2
                  go_ret2
                  exact NewSpansE.nil HO.out HB6.out
          · have q2 : ((one : Int) == 1) = false := by rw [beq_eq_false_iff_ne]; omega
            have q3 : ((one : Int) != 1) = true := by rw [bne_iff_ne]; omega
            have HO := Lib.hid (HON.out (.inr (by
              cases hi : innerR inn with
              | none => rfl
              | some p => have := innerR_first (by rw [hi]; simp); rw [hr0] at this; injection this with this; injection this with this _; exact absurd this h1)))
            clear hr0 h1
            go_enter Try.func15, Try.ntmps15
            go_wp2_with fail
            refine C2.out.mono ?_
            rintro e w2 ⟨rfl, rfl⟩
            go_wp2_with fail
            refine C4.out.mono ?_
            rintro e w4 ⟨rfl, rfl⟩
            go_wp2
            go_ret2
            exact NewSpansE.nil HO.out (Below.refl _ _)
end Go.Proofs.Ytlhcohpcjleekaa
