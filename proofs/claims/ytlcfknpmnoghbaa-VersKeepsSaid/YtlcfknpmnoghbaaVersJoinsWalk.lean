/-
  firthlaw05.VersJoins and VersLooks: the walks.
-/
import Derived.Test.YtlcfknpmnoghbaaVerAwake
namespace Go.Proofs.Ytlcfknpmnoghbaa
open Go.RowKit
set_option linter.unusedVariables false

theorem lEq_self (l : List Vr) : lEq l l = true := decide_eq_true rfl
set_option maxHeartbeats 2000000 in
set_option maxRecDepth 100000 in
theorem versJoins_walk (a0 : Option Addr) (len0 cap0 : Nat) (x0 : List vrSh.T) (a1 : Option Addr) (len1 cap1 : Nat) (x1 : List vrSh.T) (w : World)
    (t0 : Rd w (.sl 64 vrSh) [.slice a0 len0 cap0] x0) (t1 : Rd w (.sl 64 vrSh) [.slice a1 len1 cap1] x1) :
    Calls Try.prog 4 #[.slice a0 len0 cap0, .slice a1 len1 cap1] w fun e w' => e = .returned (.bool true) ∧ Below w.heap.size w w' := by
  obtain ⟨s0, b0, z0⟩ := Rd.vers t0
  obtain ⟨s1, b1, z1⟩ := Rd.vers t1
  have n0 : len0 ≤ 140737488351232 := by omega
  have n1 : len1 ≤ 140737488351232 := by omega
  have S0 := Lib.hid s0
  have S1 := Lib.hid s1
  have C1 := Lib.hid (merge_any a0 a1 len0 len1 cap0 cap1 _ _ w s0 s1 n0 n1)
  clear t0 t1 s0 s1 b0 b1 z0 z1
  generalize hla : x0.map vrOf = la at *
  generalize hlb : x1.map vrOf = lb at *
  clear hla hlb x0 x1
  have hml := merged_len la lb
  go_enter Try.func4, Try.ntmps4
  go_wp2_with fail
  refine C1.out.mono ?_
  rintro e w1 ⟨A, n, c, rows, rfl, own, hrows, hnc, b1⟩
  have hs := own.slv
  rw [hrows] at hs
  have hn := hs.len
  have M1 := Lib.hid hs
  have B1 := Lib.hid b1
  have C2 := Lib.hid (refMerge_any a0 a1 len0 len1 cap0 cap1 _ _ w1 (S0.out.below b1) (S1.out.below b1) n0 n1)
  clear own hrows hs b1 C1
  go_wp2_with fail
  refine C2.out.mono ?_
  rintro e w2 ⟨A', n', c', rfl, hs', hnc', b2⟩
  have hn' := hs'.len
  have M1 := Lib.hid (M1.out.below b2)
  have M2 := Lib.hid hs'
  have B2 := Lib.hid (B1.out.trans (b2.mono B1.out.size))
  have C3 := Lib.hid (awakeV_any w2)
  clear b2 hs' C2
  go_wp2_with fail
  refine C3.out.mono ?_
  rintro e w3 ⟨rfl, b3⟩
  have C4 := refSameV_any A A' n n' c c' _ _ w3 (M1.out.below b3) (M2.out.below b3) (by omega) (by omega)
  rw [lEq_self] at C4
  have C4 := Lib.hid C4
  have B3 := Lib.hid (B2.out.trans (b3.mono B2.out.size))
  clear b3 C3 hn hn' hml M1 M2
  go_wp2_with fail
  refine C4.out.mono ?_
  rintro e w4 ⟨rfl, b4⟩
  have B4 := Lib.hid (B3.out.trans (b4.mono B3.out.size))
  have C5 := Lib.hid (verLacks_any a0 a1 len0 len1 cap0 cap1 _ _ w4 (S0.out.below B4.out) (S1.out.below B4.out) n0 n1)
  clear b4 C4
  go_wp2_with fail
  refine C5.out.mono ?_
  rintro e w5 ⟨rfl, b5⟩
  have B5 := Lib.hid (B4.out.trans (b5.mono B4.out.size))
  have C6 := Lib.hid (refLacks_any a0 a1 len0 len1 cap0 cap1 _ _ w5 (S0.out.below B5.out) (S1.out.below B5.out) n0 n1)
  clear b5 C5
  go_wp2_with fail
  refine C6.out.mono ?_
  rintro e w6 ⟨rfl, b6⟩
  have B6 := Lib.hid (B5.out.trans (b6.mono B5.out.size))
  clear b6 C6
  go_wp2
  go_ret
  exact ⟨rfl, B6.out⟩

set_option maxHeartbeats 2000000 in
set_option maxRecDepth 100000 in
theorem versLooks_walk (a0 : Option Addr) (len0 cap0 : Nat) (x0 : List vrSh.T) (a1 : Option Addr) (len1 cap1 : Nat) (x1 : List vrSh.T) (w : World)
    (t0 : Rd w (.sl 64 vrSh) [.slice a0 len0 cap0] x0) (t1 : Rd w (.sl 64 vrSh) [.slice a1 len1 cap1] x1) :
    Calls Try.prog 3 #[.slice a0 len0 cap0, .slice a1 len1 cap1] w fun e w' => e = .returned (.bool true) ∧ Below w.heap.size w w' := by
  obtain ⟨s0, b0, z0⟩ := Rd.vers t0
  obtain ⟨s1, b1, z1⟩ := Rd.vers t1
  have n0 : len0 ≤ 140737488351232 := by omega
  have n1 : len1 ≤ 140737488351232 := by omega
  have S0 := Lib.hid s0
  have S1 := Lib.hid s1
  clear t0 t1 s0 s1 b0 b1 z0 z1
  generalize hla : x0.map vrOf = la at *
  generalize hlb : x1.map vrOf = lb at *
  clear hla hlb x0 x1
  go_enter Try.func3, Try.ntmps3
  go_wp2
  go_loopw [5] (fun i wr => ∃ (k : Nat), i = .int .i64 (k : Int) ∧ k ≤ len0 ∧ k ≤ 60 ∧ Hid (Below w.heap.size w wr)) (fun i _ => len0 - (intOf i).toNat)
  case atStart => exact ⟨0, rfl, Nat.zero_le _, Nat.zero_le _, Below.refl _ _⟩
  case round =>
    obtain ⟨k, rfl, hk, hk60, hbel⟩ := hrel
    have hsz := hbel.out.size
    by_cases hlt : k < len0 ∧ k < 60
    · obtain ⟨hlt1, hlt2⟩ := hlt
      obtain ⟨b, off, v, Ap, np, cp, e0, hx, hr, hc0, hc1, hc2, hc3, hc4⟩ := (S0.out.below hbel.out).at_ hlt1
      subst e0
      have G0 := Ext.cell hc0
      have G1 := Ext.cell hc1
      have G2 := Ext.cell hc2
      have G3 := Ext.cell hc3
      have G4 := Ext.cell hc4
      have j0 : (0 : Int) ≤ (k : Int) := by omega
      have j1 : (k : Int) < (len0 : Int) := by omega
      have j2 : (k : Int) < 60 := by omega
      have C1 := Lib.hid (fun x : Ext wr => verOne_any v Ap np cp x.w (hr.below x.below))
      have C2 := Lib.hid (fun x : Ext wr => refOne_any v Ap np cp x.w (hr.below x.below))
      clear hx hr hc0 hc1 hc2 hc3 hc4
      generalize okVB v = ok at *
      go_wp2_with fail
      refine wp_region_ext (by kernel_rfl) (by kernel_rfl) ?_
      repeat (go_big_quiet_step (first | (go_at_call 9; exact Calls.ext_of (C1.out _)) | (go_at_call 10; exact Calls.ext_of (C2.out _))))
      refine wpQuiet_nil ?_
      intro w1 hw1
      have B1 := Lib.hid (hbel.out.trans ((ext_end hw1).mono hsz))
      clear hw1 G0 G1 G2 G3 G4
      go_wp2
      go_roundw
      case rel => exact ⟨k + 1, by go_num, by omega, by omega, B1⟩
      case measure => simp [intOf]; omega
    · have hend : ∀ (b : Bool), decide ((k : Int) < (len0 : Int)) = b → (b = true → decide ((k : Int) < 60) = false) := fun b hb hb' => by
        subst hb'
        have := of_decide_eq_true hb
        exact decide_eq_false (by omega)
      have C1 := Lib.hid (fun W : World => awakeV_any W)
      have HB := hbel
      obtain ⟨bb, hbb⟩ : ∃ b, decide ((k : Int) < (len0 : Int)) = b := ⟨_, rfl⟩
      have hx := hend bb hbb
      have hbN : decide (k < len0) = bb := by rw [← hbb]; exact decide_eq_decide.2 (by omega)
      clear hend hbb
      cases bb
      · clear hx hlt
        have q : ¬ (k < len0) := of_decide_eq_false hbN
        go_wp2_with fail
        refine (C1.out _).mono ?_
        rintro e w1 ⟨rfl, b1⟩
        have B1 := Lib.hid (HB.out.trans (b1.mono hsz))
        have C2 := Lib.hid (verRight_any a0 len0 cap0 la w1 (S0.out.below B1.out) n0)
        clear b1
        go_wp2_with fail
        refine C2.out.mono ?_
        rintro e w2 ⟨rfl, b2⟩
        have B2 := Lib.hid (B1.out.trans (b2.mono B1.out.size))
        have C3 := Lib.hid (refRightV_any a0 len0 cap0 la w2 (S0.out.below B2.out) n0)
        clear b2 C2
        go_wp2_with fail
        refine C3.out.mono ?_
        rintro e w3 ⟨rfl, b3⟩
        have B3 := Lib.hid (B2.out.trans (b3.mono B2.out.size))
        have C4 := Lib.hid (verSameV_any a0 a1 len0 len1 cap0 cap1 la lb w3 (S0.out.below B3.out) (S1.out.below B3.out) n0 n1)
        clear b3 C3
        go_wp2_with fail
        refine C4.out.mono ?_
        rintro e w4 ⟨rfl, b4⟩
        have B4 := Lib.hid (B3.out.trans (b4.mono B3.out.size))
        have C5 := Lib.hid (refSameV_any a0 a1 len0 len1 cap0 cap1 la lb w4 (S0.out.below B4.out) (S1.out.below B4.out) n0 n1)
        clear b4 C4
        go_wp2_with fail
        refine C5.out.mono ?_
        rintro e w5 ⟨rfl, b5⟩
        have B5 := Lib.hid (B4.out.trans (b5.mono B4.out.size))
        have C6 := verSameV_any a0 a0 len0 len0 cap0 cap0 la la w5 (S0.out.below B5.out) (S0.out.below B5.out) n0 n0
        rw [lEq_self] at C6
        have C6 := Lib.hid C6
        clear b5 C5
        go_wp2_with fail
        refine C6.out.mono ?_
        rintro e w6 ⟨rfl, b6⟩
        have B6 := Lib.hid (B5.out.trans (b6.mono B5.out.size))
        clear b6 C6
        go_wp2
        go_ret
        exact ⟨rfl, B6.out⟩
      · have q : k < len0 := of_decide_eq_true hbN
        have q2 : ¬ (k < 60) := by omega
        clear hx hlt
        go_wp2_with fail
        refine (C1.out _).mono ?_
        rintro e w1 ⟨rfl, b1⟩
        have B1 := Lib.hid (HB.out.trans (b1.mono hsz))
        have C2 := Lib.hid (verRight_any a0 len0 cap0 la w1 (S0.out.below B1.out) n0)
        clear b1
        go_wp2_with fail
        refine C2.out.mono ?_
        rintro e w2 ⟨rfl, b2⟩
        have B2 := Lib.hid (B1.out.trans (b2.mono B1.out.size))
        have C3 := Lib.hid (refRightV_any a0 len0 cap0 la w2 (S0.out.below B2.out) n0)
        clear b2 C2
        go_wp2_with fail
        refine C3.out.mono ?_
        rintro e w3 ⟨rfl, b3⟩
        have B3 := Lib.hid (B2.out.trans (b3.mono B2.out.size))
        have C4 := Lib.hid (verSameV_any a0 a1 len0 len1 cap0 cap1 la lb w3 (S0.out.below B3.out) (S1.out.below B3.out) n0 n1)
        clear b3 C3
        go_wp2_with fail
        refine C4.out.mono ?_
        rintro e w4 ⟨rfl, b4⟩
        have B4 := Lib.hid (B3.out.trans (b4.mono B3.out.size))
        have C5 := Lib.hid (refSameV_any a0 a1 len0 len1 cap0 cap1 la lb w4 (S0.out.below B4.out) (S1.out.below B4.out) n0 n1)
        clear b4 C4
        go_wp2_with fail
        refine C5.out.mono ?_
        rintro e w5 ⟨rfl, b5⟩
        have B5 := Lib.hid (B4.out.trans (b5.mono B4.out.size))
        have C6 := verSameV_any a0 a0 len0 len0 cap0 cap0 la la w5 (S0.out.below B5.out) (S0.out.below B5.out) n0 n0
        rw [lEq_self] at C6
        have C6 := Lib.hid C6
        clear b5 C5
        go_wp2_with fail
        refine C6.out.mono ?_
        rintro e w6 ⟨rfl, b6⟩
        have B6 := Lib.hid (B5.out.trans (b6.mono B5.out.size))
        clear b6 C6
        go_wp2
        go_ret
        exact ⟨rfl, B6.out⟩
end Go.Proofs.Ytlcfknpmnoghbaa
