/-
  firthlaw05.VersMerges: the walk.
-/
import Derived.Test.YtlcfknpmnoghbaaVersPlainWalk
import Derived.Test.YtlcfknpmnoghbaaVersJoinsWalk
namespace Go.Proofs.Ytlcfknpmnoghbaa
open Go.RowKit
set_option linter.unusedVariables false

/-- All that the walk asks of the plain laws. -/
structure MFacts (la lb lc X U : List Vr) (E G : Int) : Prop where
  no : E ≠ 0 → X = []
  a5 : E = 0 → la.length ≤ 512
  b5 : E = 0 → lb.length ≤ 512
  right : E = 0 → rightV X = true
  stays : E = 0 → ∀ (k : Nat) (x : Vr), la[k]? = some x → hasD X x.s x.n = (!behB la x.s x.n && !behB lb x.s x.n)
  again : E = 0 → PlainP (la ++ lb ++ lc) → mrgE X lb = 0 ∧ mergedL X lb = X
  assoc : E = 0 → PlainP (la ++ lb ++ lc) → G = 0 → mrgE X lc = 0 → mrgE la U = 0 → mergedL X lc = mergedL la U
theorem mfacts (la lb lc : List Vr) : MFacts la lb lc (mergedL la lb) (mergedL lb lc) (mrgE la lb) (mrgE lb lc) := by
  have hc := mrg_cases la lb
  refine ⟨fun h => ?_, fun h => ?_, fun h => ?_, fun h => merged_right h, fun h k x hx => stays_law h hx, fun h hp => again_law h (hp.mono fun x hx => List.mem_append_left _ hx), fun h hp hg h3 h4 => assoc_law h hg h3 h4 hp⟩
  · rcases hc with ⟨e, _⟩ | ⟨_, e⟩
    · exact absurd e h
    · exact e
  · rcases hc with ⟨_, _, _, ra, _⟩ | ⟨e, _⟩
    · exact ra.2
    · exact absurd h e
  · rcases hc with ⟨_, _, _, _, rb, _⟩ | ⟨e, _⟩
    · exact rb.2
    · exact absurd h e
set_option maxHeartbeats 4000000 in
set_option maxRecDepth 100000 in
theorem versMerges_any (a0 a1 a2 : Option Addr) (len0 cap0 len1 cap1 len2 cap2 : Nat) (la lb lc : List Vr) (w : World) (s0 : SlV w a0 len0 la) (s1 : SlV w a1 len1 lb) (s2 : SlV w a2 len2 lc)
    (n0 : len0 ≤ 140737488351232) (n1 : len1 ≤ 140737488351232) (n2 : len2 * 64 ≤ 140737488351232) :
    Calls Try.prog 5 #[.slice a0 len0 cap0, .slice a1 len1 cap1, .slice a2 len2 cap2] w fun e w' => e = .returned (.bool true) ∧ Below w.heap.size w w' := by
  have S0 := Lib.hid s0
  have S1 := Lib.hid s1
  have S2 := Lib.hid s2
  have C0 := Lib.hid (fun W : World => awakeV_any W)
  clear s0 s1 s2
  go_enter Try.func5, Try.ntmps5
  go_wp2_with fail
  refine (C0.out _).mono ?_
  rintro e w1 ⟨rfl, b1⟩
  have HB1 := Lib.hid b1
  have c1 := fun W (b : Below w.heap.size w W) => merge_any a0 a1 len0 len1 cap0 cap1 la lb W (S0.out.below b) (S1.out.below b) n0 n1
  have c2 := fun W (b : Below w.heap.size w W) => merge_any a1 a0 len1 len0 cap1 cap0 lb la W (S1.out.below b) (S0.out.below b) n1 n0
  have c3 := fun W (b : Below w.heap.size w W) => merge_any a1 a2 len1 len2 cap1 cap2 lb lc W (S1.out.below b) (S2.out.below b) n1 (by omega)
  have hF := mfacts la lb lc
  have hm1 := merged_len la lb
  have hm2 := merged_len lb lc
  rw [(mrg_symm la lb).1, (mrg_symm la lb).2] at c2
  obtain ⟨E, hE⟩ : ∃ E, mrgE la lb = E := ⟨_, rfl⟩
  obtain ⟨G, hG⟩ : ∃ G, mrgE lb lc = G := ⟨_, rfl⟩
  obtain ⟨X, hX⟩ : ∃ X, mergedL la lb = X := ⟨_, rfl⟩
  obtain ⟨U, hU⟩ : ∃ U, mergedL lb lc = U := ⟨_, rfl⟩
  rw [hE, hG, hX, hU] at hF
  rw [hE, hX] at c1 c2
  rw [hG, hU] at c3
  rw [hX] at hm1
  rw [hU] at hm2
  have HF := Lib.hid hF
  have C1 := Lib.hid c1
  have C2 := Lib.hid c2
  have C3 := Lib.hid c3
  have HL := Lib.hid (And.intro S0.out.len S1.out.len)
  clear hF c1 c2 c3 hE hG hX hU b1
  go_wp2_with fail
  refine (C1.out _ HB1.out).mono ?_
  rintro e w2 ⟨A2, n2', c2', rows2, rfl, own2, hr2, hc2, b2⟩
  have x2 := own2.slv
  rw [hr2] at x2
  have hx2 := x2.len
  have X2 := Lib.hid x2
  have HB2 := Lib.hid (HB1.out.trans (b2.mono HB1.out.size))
  clear own2 hr2 hc2 b2 x2 rows2
  go_wp2_with fail
  refine (C2.out _ HB2.out).mono ?_
  rintro e w3 ⟨A3, n3, c3', rows3, rfl, own3, hr3, hc3, b3⟩
  have x3 := own3.slv
  rw [hr3] at x3
  have hx3 := x3.len
  have Y3 := Lib.hid x3
  have X3 := Lib.hid (X2.out.below b3)
  have HB3 := Lib.hid (HB2.out.trans (b3.mono HB2.out.size))
  have c4 := refSameV_any A2 A3 n2' n3 c2' c3' X X w3 X3.out Y3.out (by omega) (by omega)
  rw [lEq_self] at c4
  have C4 := Lib.hid c4
  clear own3 hr3 hc3 b3 x3 rows3 c4 C2
  by_cases hE : E = 0
  · subst hE
    have hF := HF.out
    have h5a := hF.a5 rfl
    have h5b := hF.b5 rfl
    have hl := HL.out
    have g0 : len0 ≤ 512 := by omega
    have g1 : len1 ≤ 512 := by omega
    have g2 : n2' ≤ 512 := by omega
    have g3 : n3 = n2' := by omega
    subst g3
    have STAYS := Lib.hid (hF.stays rfl)
    have AGAIN := Lib.hid (hF.again rfl)
    have ASSOC := Lib.hid (hF.assoc rfl)
    have c9 := fun (W : World) (x : SlV W A2 n3 X) => verRight_any A2 n3 c2' X W x (by omega)
    rw [hF.right rfl] at c9
    have C9 := Lib.hid c9
    clear hF h5a h5b hl n0 n1 hx2 hx3 c9 HF
    go_wp2_with fail
    refine C4.out.mono ?_
    rintro e w4 ⟨rfl, b4⟩
    have HB4 := Lib.hid (HB3.out.trans (b4.mono HB3.out.size))
    have X4 := Lib.hid (X3.out.below b4)
    clear C4 b4 X3 X2 Y3
    go_wp2
    go_loopw [11] (fun t wr => ∃ (k : Nat), t = .int .i64 (k : Int) ∧ k ≤ len0 ∧ Hid (Below w4.heap.size w4 wr)) (fun t _ => len0 - (intOf t).toNat)
    case atStart => exact ⟨0, rfl, Nat.zero_le _, Below.refl _ _⟩
    case round =>
      obtain ⟨k, rfl, hk, HW⟩ := hrel
      by_cases hlt : k < len0
      · obtain ⟨b, off, x, Ap, np, cp, e0, hx, hr, hc0, hc1, -, -, -⟩ := (S0.out.below (HB4.out.trans (HW.out.mono HB4.out.size))).at_ hlt
        subst e0
        have ST := Lib.hid (STAYS.out k x hx)
        have c5 := refBehind_any _ len0 cap0 la x.s x.n wr (S0.out.below (HB4.out.trans (HW.out.mono HB4.out.size))) (by omega)
        have j0 : (0 : Int) ≤ (k : Int) := by omega
        have j1 : (k : Int) < (len0 : Int) := by omega
        clear hx hr
        cases hb1 : behB la x.s x.n
        · rw [hb1] at c5 ST
          have C5 := Lib.hid c5
          clear c5 hb1
          go_wp2_with fail
          refine C5.out.mono ?_
          rintro e w5 ⟨rfl, bb⟩
          have HW := Lib.hid (HW.out.trans (bb.mono HW.out.size))
          clear C5
          cases hb2 : behB lb x.s x.n
          · rw [hb2] at ST
            have c6 := refBehind_any a1 len1 cap1 lb x.s x.n w5 (S1.out.below (HB4.out.trans (HW.out.mono HB4.out.size))) (by omega)
            rw [hb2] at c6
            have C6 := Lib.hid c6
            have y0 := (bb.cell (World.block_lt_of_cell? _ _ hc0)).trans hc0
            have y1 := (bb.cell (World.block_lt_of_cell? _ _ hc1)).trans hc1
            clear hc0 hc1 c6 bb hb2
            go_wp2_with fail
            refine C6.out.mono ?_
            rintro e w6 ⟨rfl, bb⟩
            have hc0 := y0
            have hc1 := y1
            have HW := Lib.hid (HW.out.trans (bb.mono HW.out.size))
            clear y0 y1 C6
            have c7 := hasD_any A2 n3 c2' X x.s x.n _ (X4.out.below HW.out) (by omega)
            rw [ST.out] at c7
            have C7 := Lib.hid c7
            have y0 := (bb.cell (World.block_lt_of_cell? _ _ hc0)).trans hc0
            have y1 := (bb.cell (World.block_lt_of_cell? _ _ hc1)).trans hc1
            clear hc0 hc1 c7 bb ST
            go_wp2_with fail
            refine C7.out.mono ?_
            rintro e w7 ⟨rfl, b7⟩
            have HW7 := Lib.hid (HW.out.trans (b7.mono HW.out.size))
            clear b7 C7 y0 y1
            go_wp2
            go_roundw
            case rel => exact ⟨k + 1, by go_num, by omega, HW7⟩
            case measure => simp [intOf]; omega
          · rw [hb2] at ST
            have c6 := refBehind_any a1 len1 cap1 lb x.s x.n w5 (S1.out.below (HB4.out.trans (HW.out.mono HB4.out.size))) (by omega)
            rw [hb2] at c6
            have C6 := Lib.hid c6
            have y0 := (bb.cell (World.block_lt_of_cell? _ _ hc0)).trans hc0
            have y1 := (bb.cell (World.block_lt_of_cell? _ _ hc1)).trans hc1
            clear hc0 hc1 c6 bb hb2
            go_wp2_with fail
            refine C6.out.mono ?_
            rintro e w6 ⟨rfl, bb⟩
            have hc0 := y0
            have hc1 := y1
            have HW := Lib.hid (HW.out.trans (bb.mono HW.out.size))
            clear y0 y1 C6
            have c7 := hasD_any A2 n3 c2' X x.s x.n _ (X4.out.below HW.out) (by omega)
            rw [ST.out] at c7
            have C7 := Lib.hid c7
            have y0 := (bb.cell (World.block_lt_of_cell? _ _ hc0)).trans hc0
            have y1 := (bb.cell (World.block_lt_of_cell? _ _ hc1)).trans hc1
            clear hc0 hc1 c7 bb ST
            go_wp2_with fail
            refine C7.out.mono ?_
            rintro e w7 ⟨rfl, b7⟩
            have HW7 := Lib.hid (HW.out.trans (b7.mono HW.out.size))
            clear b7 C7 y0 y1
            go_wp2
            go_roundw
            case rel => exact ⟨k + 1, by go_num, by omega, HW7⟩
            case measure => simp [intOf]; omega
        · rw [hb1] at c5 ST
          have C5 := Lib.hid c5
          clear c5 hb1
          go_wp2_with fail
          refine C5.out.mono ?_
          rintro e w5 ⟨rfl, bb⟩
          have HW := Lib.hid (HW.out.trans (bb.mono HW.out.size))
          clear C5
          have c7 := hasD_any A2 n3 c2' X x.s x.n _ (X4.out.below HW.out) (by omega)
          rw [ST.out] at c7
          have C7 := Lib.hid c7
          have y0 := (bb.cell (World.block_lt_of_cell? _ _ hc0)).trans hc0
          have y1 := (bb.cell (World.block_lt_of_cell? _ _ hc1)).trans hc1
          clear hc0 hc1 c7 bb ST
          go_wp2_with fail
          refine C7.out.mono ?_
          rintro e w7 ⟨rfl, b7⟩
          have HW7 := Lib.hid (HW.out.trans (b7.mono HW.out.size))
          clear b7 C7 y0 y1
          go_wp2
          go_roundw
          case rel => exact ⟨k + 1, by go_num, by omega, HW7⟩
          case measure => simp [intOf]; omega
      · obtain rfl : k = len0 := by omega
        clear STAYS
        go_wp2_with fail
        refine (C9.out _ (X4.out.below HW.out)).mono ?_
        rintro e w8 ⟨rfl, b8⟩
        have HW := Lib.hid (HW.out.trans (b8.mono HW.out.size))
        clear b8
        have HT := Lib.hid (HB4.out.trans (HW.out.mono HB4.out.size))
        have C10 := Lib.hid (plain_any a0 a1 a2 k cap0 len1 cap1 len2 cap2 la lb lc _ (S0.out.below HT.out) (S1.out.below HT.out) (S2.out.below HT.out) g0 g1 n2)
        go_wp2_with fail
        refine C10.out.mono ?_
        rintro e w10 ⟨p, rfl, hp, b10⟩
        have HW := Lib.hid (HW.out.trans (b10.mono HW.out.size))
        clear b10 C10 HT
        cases p
        · clear hp
          go_wp2_with fail
          refine (C9.out _ (X4.out.below HW.out)).mono ?_
          rintro e w8 ⟨rfl, b8⟩
          have HW := Lib.hid (HW.out.trans (b8.mono HW.out.size))
          clear b8
          go_wp2
          go_ret
          exact ⟨rfl, HB4.out.trans (HW.out.mono HB4.out.size)⟩
        · have AG := Lib.hid (AGAIN.out (hp rfl))
          have AS := Lib.hid (ASSOC.out (hp rfl))
          clear hp AGAIN ASSOC
          have HT := Lib.hid (HB4.out.trans (HW.out.mono HB4.out.size))
          have c11 := merge_any A2 a1 n3 len1 c2' cap1 X lb _ (X4.out.below HW.out) (S1.out.below HT.out) (by omega) (by omega)
          rw [AG.out.1, AG.out.2] at c11
          have C11 := Lib.hid c11
          clear c11 AG HT
          go_wp2_with fail
          refine C11.out.mono ?_
          rintro e w11 ⟨A11, n11, c11, rows11, rfl, own11, hr11, hc11, b11⟩
          have x11 := own11.slv
          rw [hr11] at x11
          have hx11 := x11.len
          have hx4 := X4.out.len
          have HW := Lib.hid (HW.out.trans (b11.mono HW.out.size))
          have c12 := refSameV_any A11 A2 n11 n3 c11 c2' X X _ x11 (X4.out.below HW.out) (by omega) (by omega)
          rw [lEq_self] at c12
          have C12 := Lib.hid c12
          clear own11 hr11 hc11 b11 x11 c12 C11 hx11 hx4
          go_wp2_with fail
          refine C12.out.mono ?_
          rintro e w12 ⟨rfl, b12⟩
          have HW := Lib.hid (HW.out.trans (b12.mono HW.out.size))
          clear b12 C12
          go_wp2_with fail
          refine (C3.out _ (HB4.out.trans (HW.out.mono HB4.out.size))).mono ?_
          rintro e w13 ⟨A13, n13, c13, rows13, rfl, own13, hr13, hc13, b13⟩
          have x13 := own13.slv
          rw [hr13] at x13
          have HU := Lib.hid x13
          have hu := x13.len
          have HW := Lib.hid (HW.out.trans (b13.mono HW.out.size))
          clear own13 hr13 hc13 b13 x13
          by_cases hG : G = 0
          · subst hG
            have AS := Lib.hid (AS.out rfl)
            obtain ⟨E1, h1⟩ : ∃ E1, mrgE X lc = E1 := ⟨_, rfl⟩
            obtain ⟨E2, h2⟩ : ∃ E2, mrgE la U = E2 := ⟨_, rfl⟩
            obtain ⟨M1, k1⟩ : ∃ M1, mergedL X lc = M1 := ⟨_, rfl⟩
            obtain ⟨M2, k2⟩ : ∃ M2, mergedL la U = M2 := ⟨_, rfl⟩
            have l1 := merged_len X lc
            have l2 := merged_len la U
            have HT := Lib.hid (HB4.out.trans (HW.out.mono HB4.out.size))
            have c14 := fun W (b : Below w13.heap.size w13 W) => merge_any A2 a2 n3 len2 c2' cap2 X lc W ((X4.out.below HW.out).below b) ((S2.out.below HT.out).below b) (by omega) (by omega)
            have c15 := fun W (b : Below w13.heap.size w13 W) => merge_any a0 A13 k n13 cap0 c13 la U W ((S0.out.below HT.out).below b) (HU.out.below b) (by omega) (by omega)
            have AS2 := AS.out
            rw [h1, h2, k1, k2] at AS2
            rw [h1, k1] at c14
            rw [h2, k2] at c15
            rw [k1] at l1
            rw [k2] at l2
            have AS := Lib.hid AS2
            have C14 := Lib.hid c14
            have C15 := Lib.hid c15
            clear h1 h2 k1 k2 c14 c15 AS2 HT
            go_wp2_with fail
            refine (C14.out _ (Below.refl _ _)).mono ?_
            rintro e w14 ⟨A14, n14, c14, rows14, rfl, own14, hr14, hc14, b14⟩
            have x14 := own14.slv
            rw [hr14] at x14
            have hl14 := x14.len
            have Y14 := Lib.hid x14
            have B14 := Lib.hid b14
            clear own14 hr14 hc14 b14 x14 C14
            go_wp2_with fail
            refine (C15.out _ B14.out).mono ?_
            rintro e w15 ⟨A15, n15, c15, rows15, rfl, own15, hr15, hc15, b15⟩
            have x15 := own15.slv
            rw [hr15] at x15
            have hl15 := x15.len
            have Y15 := Lib.hid x15
            have HW := Lib.hid (HW.out.trans ((B14.out.trans (b15.mono B14.out.size)).mono HW.out.size))
            have c16 := refSameV_any A14 A15 n14 n15 c14 c15 M1 M2 _ (Y14.out.below b15) Y15.out (by omega) (by omega)
            clear own15 hr15 hc15 b15 x15 C15
            by_cases h1 : E1 = 0
            · subst h1
              by_cases h2 : E2 = 0
              · subst h2
                rw [AS.out rfl rfl, lEq_self] at c16
                have C16 := Lib.hid c16
                clear c16
                go_wp2_with fail
                refine C16.out.mono ?_
                rintro e w16 ⟨rfl, b16⟩
                have HW := Lib.hid (HW.out.trans (b16.mono HW.out.size))
                clear b16
                go_wp2
                go_ret
                exact ⟨rfl, HB4.out.trans (HW.out.mono HB4.out.size)⟩
              · have q1 : (E2 == 0) = false := beq_eq_false_iff_ne.2 h2
                have q2 : (E2 != 0) = true := bne_iff_ne.2 h2
                clear c16
                go_wp2
                go_ret
                exact ⟨rfl, HB4.out.trans (HW.out.mono HB4.out.size)⟩
            · have q1 : (E1 == 0) = false := beq_eq_false_iff_ne.2 h1
              have q2 : (E1 != 0) = true := bne_iff_ne.2 h1
              clear c16
              go_wp2
              go_ret
              exact ⟨rfl, HB4.out.trans (HW.out.mono HB4.out.size)⟩
          · have q1 : (G == 0) = false := beq_eq_false_iff_ne.2 hG
            have q2 : (G != 0) = true := bne_iff_ne.2 hG
            go_wp2
            go_ret
            exact ⟨rfl, HB4.out.trans (HW.out.mono HB4.out.size)⟩
  · have hE1 : (E == 0) = false := beq_eq_false_iff_ne.2 hE
    have hE2 : (E != 0) = true := bne_iff_ne.2 hE
    have hX := HF.out.no hE
    rw [hX] at hx2 hx3
    simp only [List.length_nil] at hx2 hx3
    subst hx2 hx3
    clear hX
    go_wp2_with fail
    refine C4.out.mono ?_
    rintro e w4 ⟨rfl, b4⟩
    have HB4 := Lib.hid (HB3.out.trans (b4.mono HB3.out.size))
    go_wp2
    go_ret
    exact ⟨rfl, HB4.out⟩
set_option maxRecDepth 100000 in
theorem versMerges_walk (a0 : Option Addr) (len0 cap0 : Nat) (x0 : List vrSh.T) (a1 : Option Addr) (len1 cap1 : Nat) (x1 : List vrSh.T) (a2 : Option Addr) (len2 cap2 : Nat) (x2 : List vrSh.T) (w : World)
    (t0 : Rd w (.sl 64 vrSh) [.slice a0 len0 cap0] x0) (t1 : Rd w (.sl 64 vrSh) [.slice a1 len1 cap1] x1) (t2 : Rd w (.sl 64 vrSh) [.slice a2 len2 cap2] x2) :
    Calls Try.prog 5 #[.slice a0 len0 cap0, .slice a1 len1 cap1, .slice a2 len2 cap2] w fun e w' => e = .returned (.bool true) ∧ Below w.heap.size w w' := by
  obtain ⟨s0, b0, z0⟩ := Rd.vers t0
  obtain ⟨s1, b1, z1⟩ := Rd.vers t1
  obtain ⟨s2, b2, z2⟩ := Rd.vers t2
  exact versMerges_any a0 a1 a2 len0 cap0 len1 cap1 len2 cap2 _ _ _ w s0 s1 s2 (by omega) (by omega) (by omega)
end Go.Proofs.Ytlcfknpmnoghbaa
