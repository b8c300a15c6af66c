/-
  seal.Open and the document's: what they answer.
-/
import Derived.Test.YtlhcohpcjleekaaSealWalk
import Derived.Test.YtlhcohpcjleekaaNumText
namespace Go.Proofs.Ytlhcohpcjleekaa
open Go.RowKit
set_option linter.unusedVariables false

/-- What a call leaves that answers new spans and an error's number. -/
def NewSpansE (w : World) (l : List Sp) (x : Int) (e : Ending) (w' : World) : Prop :=
  ∃ A n c, e = .returned (.tuple #[.slice A n c, .int .i64 x]) ∧ w'.ownsRow w.heap.size 45 3 (.slice A n c) n (spV l) ∧ n ≤ c ∧ Below w.heap.size w w'
theorem NewSpansE.nil {w w' : World} {p : List Sp × Int} {x : Int} (hp : p = ([], x)) (b : Below w.heap.size w w') : NewSpansE w p.1 p.2 (.returned (.tuple #[.slice none 0 0, .int .i64 x])) w' := by
  rw [hp]; exact ⟨none, 0, 0, rfl, World.ownsRow_nil _ _ _ _, Nat.le_refl _, b⟩
section
variable {s : ByteArray} {g : Int} {b : List UInt8}
theorem openE_may (h : mayB s g = false) : openE s g b = ([], 1) := if_pos h
theorem openE_nil (h : mayB s g = true) (h0 : b.length = 0) : openE s g b = ([], 0) := by unfold openE; rw [if_neg (by rw [h]; decide), if_pos h0]
theorem openE_short (h : mayB s g = true) (h0 : ¬ b.length = 0) (h9 : b.length < 9) : openE s g b = ([], 130) := by unfold openE; rw [if_neg (by rw [h]; decide), if_neg h0, if_pos h9]
theorem openE_bad (h : mayB s g = true) (h9 : ¬ b.length < 9) (hi : innerR (b.take (b.length - 8)) = none) : openE s g b = ([], 130) := by
  unfold openE; rw [if_neg (by rw [h]; decide), if_neg (by omega), if_neg h9, hi]
theorem openE_at (h : mayB s g = true) (h9 : ¬ b.length < 9) {g' : Nat} {l : List Sp} (hi : innerR (b.take (b.length - 8)) = some (g', l)) :
    openE s g b = if (g' : Int) ≠ g then ([], 131) else if b.drop (b.length - 8) ≠ markB s (b.take (b.length - 8)) then ([], 132) else (l, 0) := by
  unfold openE; rw [if_neg (by rw [h]; decide), if_neg (by omega), if_neg h9, hi]
theorem innerR_one {l : List UInt8} {c : Nat} (h : l[0]? = some (UInt8.ofNat c)) (hc : c < 256) (h1 : ¬ c = 1) : innerR l = none := by
  cases l with
  | nil => simp at h
  | cons x r =>
    simp only [List.getElem?_cons_zero, Option.some.injEq] at h
    subst h
    unfold innerR
    simp only
    rw [if_neg]
    intro e
    have := congrArg UInt8.toNat e
    rw [byte_toNat c hc] at this
    exact h1 this
theorem innerR_num {l : List UInt8} (h : l[0]? = some (UInt8.ofNat 1)) {x : Int} (hr : rdNum (l.drop 1) = .error x) : innerR l = none := by
  cases l with
  | nil => simp at h
  | cons y r =>
    simp only [List.getElem?_cons_zero, Option.some.injEq] at h
    subst h
    simp only [List.drop_succ_cons, List.drop_zero] at hr
    unfold innerR
    simp [hr]
theorem innerR_at {l : List UInt8} (h : l[0]? = some (UInt8.ofNat 1)) {g k : Nat} (hr : rdNum (l.drop 1) = .ok (g, k)) : innerR l = match setR okP (l.drop (1 + k)) with | some m => some (g, m) | none => none := by
  cases l with
  | nil => simp at h
  | cons y r =>
    simp only [List.getElem?_cons_zero, Option.some.injEq] at h
    subst h
    simp only [List.drop_succ_cons, List.drop_zero] at hr
    unfold innerR
    simp only [hr]
    rw [if_pos (by decide), Nat.add_comm 1 k, List.drop_succ_cons]
    cases setR okP (r.drop k) <;> rfl
end
set_option maxHeartbeats 2000000 in
set_option maxRecDepth 100000 in
theorem sealOpen_any (s : ByteArray) (g : Int) (A : Option Addr) (n c : Nat) (b : List UInt8) (w : World) (hs : SlB w A n b) (hc : n ≤ c) (h9 : n ≤ 4000000000000) (hz : s.size ≤ 140737488351232) :
    Calls Try.prog 14 #[.string s, .int .i64 g, .slice A n c] w (NewSpansE w (openE s g b).1 (openE s g b).2) := by
  have hll := hs.len
  have HS := Lib.hid hs
  have C2 := Lib.hid (may_any s g w hz)
  clear hs
  cases hm : mayB s g
  · have HO := Lib.hid (openE_may (b := b) hm)
    rw [hm] at C2
    clear hm
    go_enter Try.func14, Try.ntmps14
    go_wp2_with fail
    refine C2.out.mono ?_
    rintro e w2 ⟨rfl, rfl⟩
    go_wp2
    go_ret2
    exact NewSpansE.nil HO.out (Below.refl _ _)
  · have hmm := mayB_true.1 hm
    rw [hm] at C2
    by_cases h0 : n = 0
    · have HO := Lib.hid (openE_nil (b := b) hm (by omega))
      subst h0
      clear hm
      go_enter Try.func14, Try.ntmps14
      go_wp2_with fail
      refine C2.out.mono ?_
      rintro e w2 ⟨rfl, rfl⟩
      go_wp2
      go_ret2
      exact NewSpansE.nil HO.out (Below.refl _ _)
    · have q0 : ((n : Int) == 0) = false := by rw [beq_eq_false_iff_ne]; omega
      by_cases h8 : n < 9
      · have HO := Lib.hid (openE_short (b := b) hm (by omega) (by omega))
        have q1 : decide ((n : Int) < 9) = true := decide_eq_true (by omega)
        clear hm
        go_enter Try.func14, Try.ntmps14
        go_wp2_with fail
        refine C2.out.mono ?_
        rintro e w2 ⟨rfl, rfl⟩
        go_wp2
        go_ret2
        exact NewSpansE.nil HO.out (Below.refl _ _)
      · have q1 : decide ((n : Int) < 9) = false := decide_eq_false (by omega)
        obtain ⟨bb, off, c0, rfl, hc0, hb0, hcell⟩ := HS.out.at_ (k := 0) (by omega)
        rw [Nat.add_zero] at hcell
        have hb0' : (b.take (b.length - 8))[0]? = some (UInt8.ofNat c0) := by rw [List.getElem?_take, if_pos (by omega), hb0]
        by_cases h1 : c0 = 1
        · subst h1
          have HB0 := Lib.hid hb0'
          have HM := Lib.hid hm
          have e8 : ((n : Int) - 8).toNat = n - 8 := by omega
          have w8 : IntKind.i64.wrap ((n : Int) - 8) = (n : Int) - 8 := IntWalk.i64_in _ (by omega)
          have i8 : (0 : Int) ≤ (n : Int) - 8 := by omega
          have i9 : (n : Int) - 8 ≤ (n : Int) := by omega
          have hne : ¬ c = n - 8 := by omega
          have hb9 : ¬ b.length < 9 := by omega
          clear hb0 hb0' hm
          go_enter Try.func14, Try.ntmps14
          go_wp2_with fail
          refine C2.out.mono ?_
          rintro e w2 ⟨rfl, rfl⟩
          go_wp2_with fail
          refine wp_region_ext (by kernel_rfl) (by kernel_rfl) ?_
          repeat (go_big_quiet_step (fail))
          refine wpQuiet_nil ?_
          intro w3 hw3
          have b3 := ext_end hw3
          have HB3 := Lib.hid b3
          have HI := Lib.hid (show SlB w3 (some ⟨bb, off, none⟩) (n - 8) (b.take (b.length - 8)) from by
            have := SlB.part (HS.out.below b3) (from_ := 0) (m := n - 8) (by omega)
            rw [Nat.add_zero, List.drop_zero] at this
            rw [hll]; exact this)
          have HK := Lib.hid (show SlB w3 (some ⟨bb, off + (n - 8), none⟩) (n - (n - 8)) (b.drop (b.length - 8)) from by
            have := SlB.part (HS.out.below b3) (from_ := n - 8) (m := n - (n - 8)) (by omega)
            rw [List.take_of_length_le (by rw [List.length_drop]; omega)] at this
            rw [hll]; exact this)
          clear hw3 b3 C2 e8 w8 i8 i9 hne hcell q0 q1
          obtain ⟨inn, hinn⟩ : ∃ inn, b.take (b.length - 8) = inn := ⟨_, rfl⟩
          obtain ⟨mk, hmk⟩ : ∃ mk, b.drop (b.length - 8) = mk := ⟨_, rfl⟩
          rw [hinn] at HI HB0
          rw [hmk] at HK
          have hil := HI.out.len
          have HIN := Lib.hid hinn
          have HMK := Lib.hid hmk
          clear hinn hmk
          cases hr : rdNum (inn.drop 1) with
          | error x =>
            have hx : x = 2 ∨ x = 4 := rdN_err _ _ _ _ hr
            have hx0 : (x == 0) = false := by rw [beq_eq_false_iff_ne]; omega
            have hx1 : (x != 0) = true := by rw [bne_iff_ne]; omega
            have C4 := Lib.hid (show Calls _ _ #[.slice (some ⟨bb, off, none⟩) (n - 8) c, .int .i64 1] w3 _ from num_err (at_ := 1) HI.out (by omega) (by omega) (by omega) hr)
            have HO := Lib.hid (openE_bad HM.out hb9 (by rw [HIN.out]; exact innerR_num HB0.out hr))
            clear hr hx
            go_wp2_with fail
            refine C4.out.mono ?_
            rintro e w4 ⟨rfl, rfl⟩
            go_wp2
            go_ret2
            exact NewSpansE.nil HO.out HB3.out
          | ok p =>
            obtain ⟨g', k⟩ := p
            obtain ⟨k1, k9, kl, kg, -⟩ := rdNum_ok hr
            rw [List.length_drop] at kl
            have C4 := Lib.hid (show Calls _ _ #[.slice (some ⟨bb, off, none⟩) (n - 8) c, .int .i64 1] w3 _ from num_ok (at_ := 1) HI.out (by omega) (by omega) (by omega) hr)
            have HAT := Lib.hid (innerR_at HB0.out hr)
            clear hr
            go_wp2_with fail
            refine C4.out.mono ?_
            rintro e w4 ⟨rfl, rfl⟩
            have t1 : ((1 : Nat) : Int) + (k : Int) = ((1 + k : Nat) : Int) := by omega
            rw [t1]
            have hne : ¬ c = 1 + k := by omega
            have i1 : 1 + k ≤ n - 8 := by omega
            clear t1 C4
            have HP := Lib.hid (show SlB w3 (some ⟨bb, off + (1 + k), none⟩) (n - 8 - (1 + k)) (inn.drop (1 + k)) from by
              have := SlB.part HI.out (from_ := 1 + k) (m := n - 8 - (1 + k)) (by omega)
              rwa [List.take_of_length_le (by rw [List.length_drop]; omega)] at this)
            have c5 := set_any w3 _ _ (c - (1 + k)) _ HP.out (by omega) (by omega)
            cases ho : setR okP (inn.drop (1 + k)) with
            | none =>
              rw [ho] at c5
              have C5 := Lib.hid c5
              have HO := Lib.hid (openE_bad HM.out hb9 (by rw [HIN.out, HAT.out, ho]))
              clear c5 ho
              go_wp2_with fail
              refine C5.out.mono ?_
              rintro e w5 ⟨rfl, b5⟩
              have HB5 := Lib.hid (HB3.out.trans (b5.mono HB3.out.size))
              clear b5 C5
              go_wp2
              go_ret2
              exact NewSpansE.nil HO.out HB5.out
            | some l =>
              rw [ho] at c5
              have C5 := Lib.hid c5
              have HO := Lib.hid (openE_at HM.out hb9 (by rw [HIN.out, HAT.out, ho]))
              clear c5 ho
              go_wp2_with fail
              refine C5.out.mono ?_
              rintro e w5 ⟨A5, n5, c5, rfl, own5, hc5, b5⟩
              have HB5 := Lib.hid (HB3.out.trans (b5.mono HB3.out.size))
              have HL5 := Lib.hid own5
              have HI5 := Lib.hid (show SlB w5 _ _ inn from HI.out.below b5)
              have HK5 := Lib.hid (show SlB w5 _ _ mk from HK.out.below b5)
              clear own5 b5 C5
              by_cases hg : (g' : Int) = g
              · subst hg
                have HO2 := HO.out
                rw [if_neg (by simp), HIN.out, HMK.out] at HO2
                have HO := Lib.hid HO2
                clear HO2
                have bD := (Below.refl w5.heap.size w5).drew
                have C6 := Lib.hid (mark_any s _ _ c inn _ (HI5.out.below bD) (by omega) (by omega))
                have HCV := Lib.hid (fun (W : World) (h : SlB W (some ⟨bb, off + (n - 8), none⟩) (n - (n - 8)) mk) => run_convert_SlB (P := Try.prog) h 25 5 9 Try.underlying25 Try.underlying5 Try.underlying9 (c - (n - 8)))
                clear bD
                go_wp2_with fail
                refine wp_region_noPanic ?_
                refine wp_region_held_drew (S := (fun w' => (convert 25 9 (.slice (some ⟨bb, off + (n - 8), none⟩) (n - (n - 8)) (c - (n - 8)))).run Try.prog w' = .ok (.string ⟨mk.toArray⟩) w')) (by kernel_rfl) ?_ (fun hHeld => ?_)
                · exact HCV.out _ (HK5.out.below (Below.refl _ _).drew)
                first
                  | (refine wpAnyH_take (i := 0) (oi := _) (v := undef) (dropAt rfl) (by kernel_rfl) (by kernel_rfl) (by kernel_rfl) (fun _ _ _ h => h) (Or.inr ⟨by rfl, rfl⟩) (by assumption) ?_)
                  | (refine wpAnyH_take (i := 0) (oi := _) (v := ?_) (dropAt rfl) (by kernel_rfl) (by kernel_rfl) (by kernel_rfl) (fun _ _ _ h => h) (Or.inl ⟨by rfl, ?_⟩) (by assumption) ?_; rotate_left; (focus (intro w2 hSw; (try dsimp only at hSw); go_simp; try with_reducible rfl)))
                  | fail
                try simp only [Act.put, List.setIfInBounds_toArray, List.set_cons_zero, List.set_cons_succ]
                first
                  | (refine wpAnyH_take (i := 1) (oi := _) (v := undef) (dropAt rfl) (by kernel_rfl) (by kernel_rfl) (by kernel_rfl) (fun _ _ _ h => h) (Or.inr ⟨by rfl, rfl⟩) (by assumption) ?_)
                  | (refine wpAnyH_take (i := 1) (oi := _) (v := ?_) (dropAt rfl) (by kernel_rfl) (by kernel_rfl) (by kernel_rfl) (fun _ _ _ h => h) (Or.inl ⟨by rfl, ?_⟩) (by assumption) ?_; rotate_left; (focus (intro w2 hSw; (try dsimp only at hSw); go_simp; try with_reducible rfl)))
                  | fail
                try simp only [Act.put, List.setIfInBounds_toArray, List.set_cons_zero, List.set_cons_succ]
                first
                  | (refine wpAnyH_take (i := 2) (oi := _) (v := undef) (dropAt rfl) (by kernel_rfl) (by kernel_rfl) (by kernel_rfl) (fun _ _ _ h => h) (Or.inr ⟨by rfl, rfl⟩) (by assumption) ?_)
                  | (refine wpAnyH_take (i := 2) (oi := _) (v := ?_) (dropAt rfl) (by kernel_rfl) (by kernel_rfl) (by kernel_rfl) (fun _ _ _ h => h) (Or.inl ⟨by rfl, ?_⟩) (by assumption) ?_; rotate_left; (focus (intro w2 hSw; (try dsimp only at hSw); go_simp; try with_reducible rfl)))
                  | fail
                try simp only [Act.put, List.setIfInBounds_toArray, List.set_cons_zero, List.set_cons_succ]
                first
                  | (refine wpAnyH_take (i := 3) (oi := _) (v := undef) (dropAt rfl) (by kernel_rfl) (by kernel_rfl) (by kernel_rfl) (fun _ _ _ h => h) (Or.inr ⟨by rfl, rfl⟩) (by assumption) ?_)
                  | (refine wpAnyH_take (i := 3) (oi := _) (v := ?_) (dropAt rfl) (by kernel_rfl) (by kernel_rfl) (by kernel_rfl) (fun _ _ _ h => h) (Or.inl ⟨by rfl, ?_⟩) (by assumption) ?_; rotate_left; (focus (intro w2 hSw; (try dsimp only at hSw); go_simp; try with_reducible rfl)))
                  | fail
                try simp only [Act.put, List.setIfInBounds_toArray, List.set_cons_zero, List.set_cons_succ]
                refine wpAnyH_ready (rs := [4]) (by kernel_rfl) (by simp) ?_
                refine AllReadyH.cons (o := _) (dropAt rfl) (fun K hK => ?_) AllReadyH.nil
                go_simp
                (go_at_call 12; refine C6.out.mono ?_; rintro e w6 ⟨A6, c6, rfl, hc6, s6, b6⟩)
                refine hK.out _ _ ?_ (fun hHeld => ?_)
                · exact HCV.out _ ((HK5.out.below (Below.refl _ _).drew).below b6)
                clear hK K
                try simp only [Act.put, List.setIfInBounds_toArray, List.set_cons_zero, List.set_cons_succ]
                have hcv := run_convert_SlB (P := Try.prog) s6 25 5 9 Try.underlying25 Try.underlying5 Try.underlying9 c6
                have HB6 := Lib.hid (HB5.out.trans ((Below.refl w5.heap.size w5).drew.trans b6 |>.mono HB5.out.size))
                have HL6 := Lib.hid (own_below HL5.out ((Below.refl w5.heap.size w5).drew.trans b6))
                clear s6 b6
                refine wpAnyH_ready (rs := [5]) (by kernel_rfl) (by simp) ?_
                refine AllReadyH.cons (o := _) (dropAt rfl) (fun K hK => ?_) AllReadyH.nil
                go_simp
                refine hK.out _ _ ?_ (fun hHeld => ?_)
                · assumption
                clear hK K
                try simp only [Act.put, List.setIfInBounds_toArray, List.set_cons_zero, List.set_cons_succ]
                by_cases hmk : mk = markB s inn
                · have q7 : (mk == markB s inn) = true := beq_iff_eq.2 hmk
                  have q8 : (mk != markB s inn) = false := by rw [bne, q7]; rfl
                  have HO2 := HO.out
                  rw [if_neg (by simpa using hmk)] at HO2
                  have HO := Lib.hid HO2
                  clear HO2 hmk
                  first
                    | (refine wpAnyH_take (i := 6) (oi := _) (v := undef) (dropAt rfl) (by kernel_rfl) (by kernel_rfl) (by kernel_rfl) (fun _ _ _ h => h) (Or.inr ⟨by rfl, rfl⟩) (by assumption) ?_)
                    | (refine wpAnyH_take (i := 6) (oi := _) (v := ?_) (dropAt rfl) (by kernel_rfl) (by kernel_rfl) (by kernel_rfl) (fun _ _ _ h => h) (Or.inl ⟨by rfl, ?_⟩) (by assumption) ?_; rotate_left; (focus (intro w2 hSw; (try dsimp only at hSw); go_simp; try with_reducible rfl)))
                    | fail
                  try simp only [Act.put, List.setIfInBounds_toArray, List.set_cons_zero, List.set_cons_succ]
                  first
                    | (refine wpAnyH_take (i := 7) (oi := _) (v := undef) (dropAt rfl) (by kernel_rfl) (by kernel_rfl) (by kernel_rfl) (fun _ _ _ h => h) (Or.inr ⟨by rfl, rfl⟩) (by assumption) ?_)
                    | (refine wpAnyH_take (i := 7) (oi := _) (v := ?_) (dropAt rfl) (by kernel_rfl) (by kernel_rfl) (by kernel_rfl) (fun _ _ _ h => h) (Or.inl ⟨by rfl, ?_⟩) (by assumption) ?_; rotate_left; (focus (intro w2 hSw; (try dsimp only at hSw); go_simp; try with_reducible rfl)))
                    | fail
                  try simp only [Act.put, List.setIfInBounds_toArray, List.set_cons_zero, List.set_cons_succ]
                  refine wpAnyH_done (by kernel_rfl) ?_ _
                  refine NoPanic.normal ?_
                  clear hHeld hcv
                  go_wp2
                  go_ret2
                  rw [HO.out]
                  exact ⟨A5, n5, c5, rfl, own_lower HL6.out HB3.out.size, hc5, HB6.out⟩
                · have q7 : (mk == markB s inn) = false := beq_eq_false_iff_ne.2 hmk
                  have q8 : (mk != markB s inn) = true := by rw [bne, q7]; rfl
                  have HO2 := HO.out
                  rw [if_pos hmk] at HO2
                  have HO := Lib.hid HO2
                  clear HO2 hmk
                  first
                    | (refine wpAnyH_take (i := 6) (oi := _) (v := undef) (dropAt rfl) (by kernel_rfl) (by kernel_rfl) (by kernel_rfl) (fun _ _ _ h => h) (Or.inr ⟨by rfl, rfl⟩) (by assumption) ?_)
                    | (refine wpAnyH_take (i := 6) (oi := _) (v := ?_) (dropAt rfl) (by kernel_rfl) (by kernel_rfl) (by kernel_rfl) (fun _ _ _ h => h) (Or.inl ⟨by rfl, ?_⟩) (by assumption) ?_; rotate_left; (focus (intro w2 hSw; (try dsimp only at hSw); go_simp; try with_reducible rfl)))
                    | fail
                  try simp only [Act.put, List.setIfInBounds_toArray, List.set_cons_zero, List.set_cons_succ]
                  first
                    | (refine wpAnyH_take (i := 7) (oi := _) (v := undef) (dropAt rfl) (by kernel_rfl) (by kernel_rfl) (by kernel_rfl) (fun _ _ _ h => h) (Or.inr ⟨by rfl, rfl⟩) (by assumption) ?_)
                    | (refine wpAnyH_take (i := 7) (oi := _) (v := ?_) (dropAt rfl) (by kernel_rfl) (by kernel_rfl) (by kernel_rfl) (fun _ _ _ h => h) (Or.inl ⟨by rfl, ?_⟩) (by assumption) ?_; rotate_left; (focus (intro w2 hSw; (try dsimp only at hSw); go_simp; try with_reducible rfl)))
                    | fail
                  try simp only [Act.put, List.setIfInBounds_toArray, List.set_cons_zero, List.set_cons_succ]
                  refine wpAnyH_done (by kernel_rfl) ?_ _
                  refine NoPanic.normal ?_
                  clear hHeld hcv
                  go_wp2
                  go_ret2
                  exact NewSpansE.nil HO.out HB6.out
              · have q5 : ((g' : Int) == g) = false := beq_eq_false_iff_ne.2 hg
                have q6 : ((g' : Int) != g) = true := bne_iff_ne.2 hg
                have HO2 := HO.out
                rw [if_pos hg] at HO2
                have HO := Lib.hid HO2
                clear HO2
                go_wp2
                go_ret2
                exact NewSpansE.nil HO.out HB5.out
        · have q2 : ((c0 : Int) == 1) = false := by rw [beq_eq_false_iff_ne]; omega
          have q3 : ((c0 : Int) != 1) = true := by rw [bne_iff_ne]; omega
          have HO := Lib.hid (openE_bad hm (by omega) (innerR_one hb0' hc0 h1))
          clear hm hb0 hb0' h1
          go_enter Try.func14, Try.ntmps14
          go_wp2_with fail
          refine C2.out.mono ?_
          rintro e w2 ⟨rfl, rfl⟩
          go_wp2
          go_ret2
          exact NewSpansE.nil HO.out (Below.refl _ _)
end Go.Proofs.Ytlhcohpcjleekaa
