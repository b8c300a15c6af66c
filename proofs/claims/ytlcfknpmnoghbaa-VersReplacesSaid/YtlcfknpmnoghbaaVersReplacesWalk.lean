/-
  firthlaw05.VersReplaces: the walk.
-/
import Derived.Test.YtlcfknpmnoghbaaVerPast
namespace Go.Proofs.Ytlcfknpmnoghbaa
open Go.RowKit
set_option linter.unusedVariables false

theorem wf_of {x : Int} (h : -9223372036854775808 ≤ x ∧ x ≤ 9223372036854775807) : (Lit.int .i64 x).wf = true := WalkArith.wf_i64 h
theorem shown_one (u : Vr) : (shownV [u]).length = if u.gone then 0 else 1 := by
  unfold shownV
  cases h : u.gone <;> simp [h]
set_option maxHeartbeats 4000000 in
set_option maxRecDepth 100000 in
theorem versReplaces_walk (a0 : Option Addr) (len0 cap0 : Nat) (x0 : List vrSh.T) (s : Int) (val : ByteArray) (w : World)
    (t0 : Rd w (.sl 64 vrSh) [.slice a0 len0 cap0] x0) (ws : (Lit.int .i64 s).wf = true) (zv : val.size ≤ 140737488351232) :
    Calls Try.prog 8 #[.slice a0 len0 cap0, .int .i64 s, .string val] w fun e w' => e = .returned (.bool true) ∧ Below w.heap.size w w' := by
  obtain ⟨s0, b0, z0⟩ := Rd.vers t0
  have n0 : len0 ≤ 140737488351232 := by omega
  have S0 := Lib.hid s0
  clear t0 b0 z0 ws
  generalize hla : x0.map vrOf = la at *
  clear hla x0
  have C0 := Lib.hid (past_any a0 len0 cap0 la w s0 n0)
  have C1 := Lib.hid (fun W : World => awakeV_any W)
  clear s0
  go_enter Try.func8, Try.ntmps8
  go_wp2_with fail
  refine C0.out.mono ?_
  rintro e w1 ⟨Ap, np, cp, p, x, rfl, hs, hcp, hx, b1⟩
  have HB := Lib.hid b1
  have HS := Lib.hid hs
  have HX := Lib.hid hx
  have hnp := hs.len
  clear hs hx b1 C0
  go_wp2_with fail
  refine (C1.out _).mono ?_
  rintro e w2 ⟨rfl, b2⟩
  have HB := Lib.hid (HB.out.trans (b2.mono HB.out.size))
  have HS := Lib.hid (Sl.below HS.out b2)
  clear b2
  by_cases hx0 : x = 0
  · subst hx0
    have HP := Lib.hid (HX.out rfl)
    have hp9 := (rightS_true.1 HP.out.2.1).2
    have hnp2 : np ≤ 1024 := by omega
    clear hp9 hnp HX
    by_cases h1 : s < 1
    · have g1 : decide (s < 1) = true := decide_eq_true h1
      go_wp2_with fail
      refine (C1.out _).mono ?_
      rintro e w8 ⟨rfl, b8⟩
      have HB := Lib.hid (HB.out.trans (b8.mono HB.out.size))
      clear b8
      go_wp2
      go_ret
      exact ⟨rfl, HB.out⟩
    · have g1 : decide (s < 1) = false := decide_eq_false h1
      by_cases h2 : s > 16
      · have g2 : decide (s > 16) = true := decide_eq_true h2
        go_wp2_with fail
        refine (C1.out _).mono ?_
        rintro e w8 ⟨rfl, b8⟩
        have HB := Lib.hid (HB.out.trans (b8.mono HB.out.size))
        clear b8
        go_wp2
        go_ret
        exact ⟨rfl, HB.out⟩
      · have g2 : decide (s > 16) = false := decide_eq_false h2
        by_cases h3 : 256 < val.size
        · have g3 : decide ((val.size : Int) > 256) = true := decide_eq_true (by omega)
          have g4 : decide (256 < val.size) = true := decide_eq_true h3
          go_wp2_with fail
          refine (C1.out _).mono ?_
          rintro e w8 ⟨rfl, b8⟩
          have HB := Lib.hid (HB.out.trans (b8.mono HB.out.size))
          clear b8
          go_wp2
          go_ret
          exact ⟨rfl, HB.out⟩
        · have g3 : decide ((val.size : Int) > 256) = false := decide_eq_false (by omega)
          have g4 : decide (256 < val.size) = false := decide_eq_false h3
          have c2 := refTop_any Ap np cp p s w2 HS.out (by omega)
          have hb := top_bound p s 4611686018427387904 (by omega) (fun x hx => ((rightS_true.1 HP.out.2.1).1.1 x hx).2.2.2.2) p.length (Nat.le_refl _)
          obtain ⟨tp, htp⟩ : ∃ tp, topS p s = tp := ⟨_, rfl⟩
          rw [show topTo p s p.length = tp from htp] at hb
          rw [htp] at c2
          have C2 := Lib.hid c2
          have htp := Lib.hid htp
          obtain ⟨t0, t1⟩ := hb
          clear c2
          go_wp2_with fail
          refine C2.out.mono ?_
          rintro e w3 ⟨rfl, rfl⟩
          clear C2
          by_cases hmx : tp = 4611686018427387904
          · subst hmx
            go_wp2
            go_ret
            exact ⟨rfl, HB.out⟩
          · have hm2 : (tp == 4611686018427387904) = false := beq_eq_false_iff_ne.2 hmx
            by_cases hg : val.size = 1
            · go_wp2_with fail
              have HU := replaces_law (val := (⟨#[]⟩ : ByteArray)) (gone := true) (s := s) HP.out.1 HP.out.2 ⟨by omega, by omega⟩ (by rw [htp.out]; exact hmx) (by first | omega | decide) (by first | (intro h; cases h; done) | (intro _; rfl))
              rw [htp.out] at HU
              have hrow : VRow w3 ⟨s, tp + 1, p, true, (⟨#[]⟩ : ByteArray)⟩ Ap np cp := ⟨HS.out, hcp, by omega, ⟨wf_of ⟨by show _ ≤ s; omega, by show s ≤ _; omega⟩, wf_of ⟨by show _ ≤ tp + 1; omega, by show tp + 1 ≤ _; omega⟩⟩, fun x hx => by
                have := (rightS_true.1 HP.out.2.1).1.1 x hx
                unfold okSp at this
                exact ⟨wf_of ⟨by omega, by omega⟩, wf_of ⟨by omega, by omega⟩, wf_of ⟨by omega, by omega⟩⟩, by show ByteArray.size (⟨#[]⟩ : ByteArray) ≤ _; first | omega | decide⟩
              have bU := (Below.refl w3.heap.size w3).alloc (Nat.le_refl _) (.cells #[.int .i64 s, .int .i64 (tp + 1), .slice Ap np cp, .bool true, .string (⟨#[]⟩ : ByteArray)] 28)
              have L1 := slv_lit w3 #[.int .i64 s, .int .i64 (tp + 1), .slice Ap np cp, .bool true, .string (⟨#[]⟩ : ByteArray)] 28 [((⟨s, tp + 1, p, true, (⟨#[]⟩ : ByteArray)⟩ : Vr), Ap, np, cp)] w3.heap.size 1 rfl rfl rfl (fun y hy => by rw [List.mem_singleton.1 hy]; exact hrow)
              have HB4 := Lib.hid (HB.out.trans (bU.mono HB.out.size))
              have M4 := Lib.hid (show SlV _ _ 1 [(⟨s, tp + 1, p, true, (⟨#[]⟩ : ByteArray)⟩ : Vr)] from L1)
              have c2 := merge_any a0 _ len0 1 cap0 1 la [(⟨s, tp + 1, p, true, (⟨#[]⟩ : ByteArray)⟩ : Vr)] _ (S0.out.below HB4.out) M4.out n0 (by omega)
              rw [HU.1.1, HU.1.2] at c2
              have C2 := Lib.hid c2
              have HL := Lib.hid HU
              clear HU hrow bU L1 c2
              go_wp2_with fail
              refine C2.out.mono ?_
              rintro e w4 ⟨A4, n4, c4, rows4, rfl, own4, hr4, hc4, b4⟩
              have s4 := own4.slv
              rw [hr4] at s4
              obtain rfl : n4 = 1 := s4.len.symm
              have HB5 := Lib.hid (HB4.out.trans (b4.mono HB4.out.size))
              have M5 := Lib.hid (M4.out.below b4)
              have X5 := Lib.hid s4
              have c3 := merge_any _ a0 1 len0 1 cap0 [(⟨s, tp + 1, p, true, (⟨#[]⟩ : ByteArray)⟩ : Vr)] la w4 M5.out (S0.out.below HB5.out) (by omega) n0
              rw [HL.out.2.1.1, HL.out.2.1.2] at c3
              have C3 := Lib.hid c3
              clear own4 hr4 b4 s4 C2 c3
              go_wp2_with fail
              refine C3.out.mono ?_
              rintro e w5 ⟨A5, n5, c5, rows5, rfl, own5, hr5, hc5, b5⟩
              have s5 := own5.slv
              rw [hr5] at s5
              obtain rfl : n5 = 1 := s5.len.symm
              have HB6 := Lib.hid (HB5.out.trans (b5.mono HB5.out.size))
              have M6 := Lib.hid (M5.out.below b5)
              have X6 := Lib.hid (X5.out.below b5)
              have Y6 := Lib.hid s5
              have c4' := refSameV_any A4 _ 1 1 c4 1 _ _ w5 X6.out M6.out (by omega) (by omega)
              rw [lEq_self] at c4'
              have C4 := Lib.hid c4'
              clear own5 hr5 b5 s5 C3 c4'
              go_wp2_with fail
              refine C4.out.mono ?_
              rintro e w6 ⟨rfl, b6⟩
              have HB7 := Lib.hid (HB6.out.trans (b6.mono HB6.out.size))
              have M7 := Lib.hid (M6.out.below b6)
              have X7 := Lib.hid (X6.out.below b6)
              have Y7 := Lib.hid (Y6.out.below b6)
              have c5' := refSameV_any A5 _ 1 1 c5 1 _ _ w6 Y7.out M7.out (by omega) (by omega)
              rw [lEq_self] at c5'
              have C5 := Lib.hid c5'
              clear b6 C4 c5'
              go_wp2_with fail
              refine C5.out.mono ?_
              rintro e w7 ⟨rfl, b7⟩
              have HB8 := Lib.hid (HB7.out.trans (b7.mono HB7.out.size))
              have M8 := Lib.hid (M7.out.below b7)
              have X8 := Lib.hid (X7.out.below b7)
              have c6' := verLacks_any _ a0 1 len0 1 cap0 _ la w7 M8.out (S0.out.below HB8.out) (by omega) n0
              rw [HL.out.2.2.1] at c6'
              have C6 := Lib.hid c6'
              clear b7 C5 c6'
              go_wp2_with fail
              refine C6.out.mono ?_
              rintro e w9 ⟨rfl, b9⟩
              have HB9 := Lib.hid (HB8.out.trans (b9.mono HB8.out.size))
              have M9 := Lib.hid (M8.out.below b9)
              have X9 := Lib.hid (X8.out.below b9)
              have c7' := verLacks_any a0 _ len0 1 cap0 1 la _ w9 (S0.out.below HB9.out) M9.out n0 (by omega)
              rw [HL.out.2.2.2] at c7'
              have C7 := Lib.hid c7'
              clear b9 C6 c7'
              go_wp2_with fail
              refine C7.out.mono ?_
              rintro e w10 ⟨rfl, b10⟩
              have HB10 := Lib.hid (HB9.out.trans (b10.mono HB9.out.size))
              have C8 := Lib.hid (shown_any A4 1 c4 _ w10 (X9.out.below b10) (by omega))
              clear b10 C7
              go_wp2_with fail
              refine C8.out.mono ?_
              rintro e w11 ⟨A11, n11, c11, rows11, rfl, own11, hr11, hc11, b11⟩
              have h1 := own11.len
              have h2 := congrArg List.length hr11
              rw [List.length_map, shown_one] at h2
              have hn11 : n11 = if true then 0 else 1 := h1.symm.trans h2
              simp at hn11
              subst hn11
              have HB := Lib.hid (HB10.out.trans (b11.mono HB10.out.size))
              clear own11 hr11 b11 C8 h1 h2
              go_wp2
              go_ret
              exact ⟨rfl, HB.out⟩
            · have hg2 : ¬ ((val.size : Int) = 1) := by omega
              have hg3 : ((val.size : Int) == 1) = false := by simpa using hg2
              go_wp2_with fail
              have HU := replaces_law (val := val) (gone := false) (s := s) HP.out.1 HP.out.2 ⟨by omega, by omega⟩ (by rw [htp.out]; exact hmx) (by first | omega | decide) (by first | (intro h; cases h; done) | (intro _; rfl))
              rw [htp.out] at HU
              have hrow : VRow w3 ⟨s, tp + 1, p, false, val⟩ Ap np cp := ⟨HS.out, hcp, by omega, ⟨wf_of ⟨by show _ ≤ s; omega, by show s ≤ _; omega⟩, wf_of ⟨by show _ ≤ tp + 1; omega, by show tp + 1 ≤ _; omega⟩⟩, fun x hx => by
                have := (rightS_true.1 HP.out.2.1).1.1 x hx
                unfold okSp at this
                exact ⟨wf_of ⟨by omega, by omega⟩, wf_of ⟨by omega, by omega⟩, wf_of ⟨by omega, by omega⟩⟩, by show ByteArray.size val ≤ _; first | omega | decide⟩
              have bU := (Below.refl w3.heap.size w3).alloc (Nat.le_refl _) (.cells #[.int .i64 s, .int .i64 (tp + 1), .slice Ap np cp, .bool false, .string val] 28)
              have L1 := slv_lit w3 #[.int .i64 s, .int .i64 (tp + 1), .slice Ap np cp, .bool false, .string val] 28 [((⟨s, tp + 1, p, false, val⟩ : Vr), Ap, np, cp)] w3.heap.size 1 rfl rfl rfl (fun y hy => by rw [List.mem_singleton.1 hy]; exact hrow)
              have HB4 := Lib.hid (HB.out.trans (bU.mono HB.out.size))
              have M4 := Lib.hid (show SlV _ _ 1 [(⟨s, tp + 1, p, false, val⟩ : Vr)] from L1)
              have c2 := merge_any a0 _ len0 1 cap0 1 la [(⟨s, tp + 1, p, false, val⟩ : Vr)] _ (S0.out.below HB4.out) M4.out n0 (by omega)
              rw [HU.1.1, HU.1.2] at c2
              have C2 := Lib.hid c2
              have HL := Lib.hid HU
              clear HU hrow bU L1 c2
              go_wp2_with fail
              refine C2.out.mono ?_
              rintro e w4 ⟨A4, n4, c4, rows4, rfl, own4, hr4, hc4, b4⟩
              have s4 := own4.slv
              rw [hr4] at s4
              obtain rfl : n4 = 1 := s4.len.symm
              have HB5 := Lib.hid (HB4.out.trans (b4.mono HB4.out.size))
              have M5 := Lib.hid (M4.out.below b4)
              have X5 := Lib.hid s4
              have c3 := merge_any _ a0 1 len0 1 cap0 [(⟨s, tp + 1, p, false, val⟩ : Vr)] la w4 M5.out (S0.out.below HB5.out) (by omega) n0
              rw [HL.out.2.1.1, HL.out.2.1.2] at c3
              have C3 := Lib.hid c3
              clear own4 hr4 b4 s4 C2 c3
              go_wp2_with fail
              refine C3.out.mono ?_
              rintro e w5 ⟨A5, n5, c5, rows5, rfl, own5, hr5, hc5, b5⟩
              have s5 := own5.slv
              rw [hr5] at s5
              obtain rfl : n5 = 1 := s5.len.symm
              have HB6 := Lib.hid (HB5.out.trans (b5.mono HB5.out.size))
              have M6 := Lib.hid (M5.out.below b5)
              have X6 := Lib.hid (X5.out.below b5)
              have Y6 := Lib.hid s5
              have c4' := refSameV_any A4 _ 1 1 c4 1 _ _ w5 X6.out M6.out (by omega) (by omega)
              rw [lEq_self] at c4'
              have C4 := Lib.hid c4'
              clear own5 hr5 b5 s5 C3 c4'
              go_wp2_with fail
              refine C4.out.mono ?_
              rintro e w6 ⟨rfl, b6⟩
              have HB7 := Lib.hid (HB6.out.trans (b6.mono HB6.out.size))
              have M7 := Lib.hid (M6.out.below b6)
              have X7 := Lib.hid (X6.out.below b6)
              have Y7 := Lib.hid (Y6.out.below b6)
              have c5' := refSameV_any A5 _ 1 1 c5 1 _ _ w6 Y7.out M7.out (by omega) (by omega)
              rw [lEq_self] at c5'
              have C5 := Lib.hid c5'
              clear b6 C4 c5'
              go_wp2_with fail
              refine C5.out.mono ?_
              rintro e w7 ⟨rfl, b7⟩
              have HB8 := Lib.hid (HB7.out.trans (b7.mono HB7.out.size))
              have M8 := Lib.hid (M7.out.below b7)
              have X8 := Lib.hid (X7.out.below b7)
              have c6' := verLacks_any _ a0 1 len0 1 cap0 _ la w7 M8.out (S0.out.below HB8.out) (by omega) n0
              rw [HL.out.2.2.1] at c6'
              have C6 := Lib.hid c6'
              clear b7 C5 c6'
              go_wp2_with fail
              refine C6.out.mono ?_
              rintro e w9 ⟨rfl, b9⟩
              have HB9 := Lib.hid (HB8.out.trans (b9.mono HB8.out.size))
              have M9 := Lib.hid (M8.out.below b9)
              have X9 := Lib.hid (X8.out.below b9)
              have c7' := verLacks_any a0 _ len0 1 cap0 1 la _ w9 (S0.out.below HB9.out) M9.out n0 (by omega)
              rw [HL.out.2.2.2] at c7'
              have C7 := Lib.hid c7'
              clear b9 C6 c7'
              go_wp2_with fail
              refine C7.out.mono ?_
              rintro e w10 ⟨rfl, b10⟩
              have HB10 := Lib.hid (HB9.out.trans (b10.mono HB9.out.size))
              have C8 := Lib.hid (shown_any A4 1 c4 _ w10 (X9.out.below b10) (by omega))
              clear b10 C7
              go_wp2_with fail
              refine C8.out.mono ?_
              rintro e w11 ⟨A11, n11, c11, rows11, rfl, own11, hr11, hc11, b11⟩
              have h1 := own11.len
              have h2 := congrArg List.length hr11
              rw [List.length_map, shown_one] at h2
              have hn11 : n11 = if false then 0 else 1 := h1.symm.trans h2
              simp at hn11
              subst hn11
              have HB := Lib.hid (HB10.out.trans (b11.mono HB10.out.size))
              clear own11 hr11 b11 C8 h1 h2
              go_wp2
              go_ret
              exact ⟨rfl, HB.out⟩
  · have hx1 : (x == 0) = false := beq_eq_false_iff_ne.2 hx0
    go_wp2_with fail
    refine (C1.out _).mono ?_
    rintro e w8 ⟨rfl, b8⟩
    have HB := Lib.hid (HB.out.trans (b8.mono HB.out.size))
    clear b8
    go_wp2
    go_ret
    exact ⟨rfl, HB.out⟩
end Go.Proofs.Ytlcfknpmnoghbaa
