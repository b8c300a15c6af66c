/-
  The same sets: the program's answers and the document's.
-/
import Derived.Test.YtlcfknpmnoghbaaVerSame
namespace Go.Proofs.Ytlcfknpmnoghbaa
open Go.RowKit
set_option linter.unusedVariables false

set_option maxHeartbeats 2000000 in
set_option maxRecDepth 100000 in
theorem refSameOne_any (v v' : Vr) (A A' : Option Addr) (n n' c c' : Nat) (w : World) (hv : VRow w v A n c) (hv' : VRow w v' A' n' c') :
    Calls Try.prog 36 #[.agg #[.int .i64 v.s, .int .i64 v.n, .slice A n c, .bool v.gone, .string v.val], .agg #[.int .i64 v'.s, .int .i64 v'.n, .slice A' n' c', .bool v'.gone, .string v'.val]] w fun e w' => e = .returned (.bool (vEq v v')) ∧ Below w.heap.size w w' := by
  have HB := Lib.hid (boxes w v A n c v' A' n' c')
  have hc := sameS_any A A' n n' c c' v.past v'.past _ (Sl.below hv.sl HB.out.2.2) (Sl.below hv'.sl HB.out.2.2) hv.n9
  clear hv hv'
  obtain ⟨s, m, past, gone, val⟩ := v
  obtain ⟨s', m', past', gone', val'⟩ := v'
  simp only at *
  have hq := eq_dot s m s' m'
  cases hd : decide (s = s' ∧ m = m')
  · have HNE : Hid (¬ (s = s' ∧ m = m' ∧ past = past' ∧ gone = gone' ∧ val = val')) := Lib.hid (fun h => of_decide_eq_false hd ⟨h.1, h.2.1⟩)
    have hne := Lib.hid (vEq_no (v := ⟨s, m, past, gone, val⟩) (v' := ⟨s', m', past', gone', val'⟩) (by intro e; injection e with e1 e2 e3 e4 e5; exact HNE.out ⟨e1, e2, e3, e4, e5⟩))
    simp only [hd] at hq
    clear hd hc HNE
    go_enter Try.func36, Try.ntmps36
    go_wp2
    go_ret
    exact ⟨retb hne.out, HB.out.2.2⟩
  · simp only [hd] at hq
    obtain ⟨rfl, rfl⟩ := of_decide_eq_true hd
    clear hd
    by_cases hg : gone = gone'
    · subst hg
      by_cases hv : val = val'
      · subst hv
        have he : vEq ⟨s, m, past, gone, val⟩ ⟨s, m, past', gone, val⟩ = (past == past') := by
          unfold vEq
          rw [Bool.eq_iff_iff, decide_eq_true_iff, beq_iff_eq]
          exact ⟨fun e => by injection e, fun e => by rw [e]⟩
        have HE := Lib.hid he
        have HC := Lib.hid hc
        clear he hc
        go_enter Try.func36, Try.ntmps36
        go_wp2_with fail
        refine HC.out.mono ?_
        rintro e w1 ⟨rfl, d, rfl⟩
        go_wp2
        go_ret
        exact ⟨retb HE.out, below_drewN HB.out.2.2 _⟩
      · have q := str_ne hv
        have hne := Lib.hid (vEq_no (v := ⟨s, m, past, gone, val⟩) (v' := ⟨s, m, past', gone, val'⟩) (by intro e; injection e with e1 e2 e3 e4 e5; exact hv e5))
        clear hv hc
        go_enter Try.func36, Try.ntmps36
        go_wp2
        go_ret
        exact ⟨retb hne.out, HB.out.2.2⟩
    · have hne := Lib.hid (vEq_no (v := ⟨s, m, past, gone, val⟩) (v' := ⟨s, m, past', gone', val'⟩) (by intro e; injection e with e1 e2 e3 e4 e5; exact hg e4))
      clear hc
      cases gone <;> cases gone' <;> first | exact absurd rfl hg | (clear hg; go_enter Try.func36, Try.ntmps36; go_wp2; go_ret; exact ⟨retb hne.out, HB.out.2.2⟩)

set_option maxHeartbeats 2000000 in
set_option maxRecDepth 100000 in
theorem refSameV_any (A1 A2 : Option Addr) (n1 n2 c1 c2 : Nat) (l1 l2 : List Vr) (w : World) (h1 : SlV w A1 n1 l1) (h2 : SlV w A2 n2 l2) (hn : n1 ≤ 140737488351232) (hn2 : n2 ≤ 140737488351232) :
    Calls Try.prog 15 #[.slice A1 n1 c1, .slice A2 n2 c2] w fun e w' => e = .returned (.bool (lEq l1 l2)) ∧ Below w.heap.size w w' := by
  have e1 := h1.len
  have e2 := h2.len
  by_cases he : n1 = n2
  · go_enter Try.func15, Try.ntmps15
    go_wp2
    go_loopw [5] (fun i wr => ∃ (k : Nat), i = .int .i64 (k : Int) ∧ k ≤ n1 ∧ Hid (EqTo l1 l2 k) ∧ Below w.heap.size w wr) (fun i _ => n1 - (intOf i).toNat)
    case atStart => exact ⟨0, rfl, Nat.zero_le _, EqTo.start l1 l2, Below.refl _ _⟩
    case round =>
      obtain ⟨k, rfl, hk, Hok, hbel⟩ := hrel
      by_cases hlt : k < n1
      · have hr1 := h1.below hbel
        have hr2 := h2.below hbel
        obtain ⟨b, off, v, Ap, np, cp, rfl, hx, hr, hc0, hc1, hc2, hc3, hc4⟩ := hr1.at_ (k := k) (by omega)
        obtain ⟨b', off', v', Ap', np', cp', rfl, hy, hr', hd0, hd1, hd2, hd3, hd4⟩ := hr2.at_ (k := k) (by omega)
        have G0 := Ext.cell hc0
        have G1 := Ext.cell hc1
        have G2 := Ext.cell hc2
        have G3 := Ext.cell hc3
        have G4 := Ext.cell hc4
        have K0 := Ext.cell hd0
        have K1 := Ext.cell hd1
        have K2 := Ext.cell hd2
        have K3 := Ext.cell hd3
        have K4 := Ext.cell hd4
        have hsz := hbel.size
        have Hx := Lib.hid hx
        have Hy := Lib.hid hy
        have j0 : (0 : Int) ≤ (k : Int) := by omega
        have j1 : (k : Int) < (n1 : Int) := by omega
        have j2 : (k : Int) < (n2 : Int) := by omega
        have HC := fun x : Ext wr => refSameOne_any v v' Ap Ap' np np' cp cp' x.w (hr.below x.below) (hr'.below x.below)
        clear hx hy hr hr' hc0 hc1 hc2 hc3 hc4 hd0 hd1 hd2 hd3 hd4 hr1 hr2
        cases hh : vEq v v'
        · simp only [hh] at HC
          have HC := Lib.hid HC
          have HS := Lib.hid (lEq_ne Hx.out Hy.out hh)
          clear hh
          go_wp2_with fail
          refine wp_region_ext (by kernel_rfl) (by kernel_rfl) ?_
          repeat (go_big_quiet_step ((go_at_call 36; exact Calls.ext_of (HC.out _))))
          refine wpQuiet_nil ?_
          intro w1 hw1
          have R4 := Lib.hid (hbel.trans ((ext_end hw1).mono hsz))
          clear hw1 G0 G1 G2 G3 G4 K0 K1 K2 K3 K4
          go_wp2
          go_ret
          exact ⟨retb HS.out, R4.out⟩
        · simp only [hh] at HC
          have HC := Lib.hid HC
          have HS := Lib.hid (Hok.out.vstep Hx.out Hy.out hh)
          clear hh
          go_wp2_with fail
          refine wp_region_ext (by kernel_rfl) (by kernel_rfl) ?_
          repeat (go_big_quiet_step ((go_at_call 36; exact Calls.ext_of (HC.out _))))
          refine wpQuiet_nil ?_
          intro w1 hw1
          have R4 := Lib.hid (hbel.trans ((ext_end hw1).mono hsz))
          clear hw1 G0 G1 G2 G3 G4 K0 K1 K2 K3 K4
          go_wp2
          go_roundw
          case rel => exact ⟨k + 1, by go_num, by omega, HS.out, R4.out⟩
          case measure => simp [intOf]; omega
      · obtain rfl : k = n1 := by omega
        have HT := Lib.hid (lEq_all Hok.out e1 (by omega))
        go_wp2
        go_ret
        exact ⟨retb HT.out, hbel⟩
  · have HF := Lib.hid (lEq_len (l := l1) (l' := l2) (by omega))
    have q : ¬ ((n1 : Int) = (n2 : Int)) := by omega
    go_enter Try.func15, Try.ntmps15
    go_wp2
    go_ret
    exact ⟨retb HF.out, Below.refl _ _⟩
set_option maxHeartbeats 2000000 in
set_option maxRecDepth 100000 in
theorem verSameV_any (A1 A2 : Option Addr) (n1 n2 c1 c2 : Nat) (l1 l2 : List Vr) (w : World) (h1 : SlV w A1 n1 l1) (h2 : SlV w A2 n2 l2) (hn : n1 ≤ 140737488351232) (hn2 : n2 ≤ 140737488351232) :
    Calls Try.prog 14 #[.slice A1 n1 c1, .slice A2 n2 c2] w fun e w' => e = .returned (.bool (lEq l1 l2)) ∧ Below w.heap.size w w' := by
  have e1 := h1.len
  have e2 := h2.len
  by_cases he : n2 < n1
  · have HF := Lib.hid (lEq_len (l := l1) (l' := l2) (by omega))
    have q : ¬ ((n1 : Int) = (n2 : Int)) := by omega
    have q2 : ((n1 : Int) == (n2 : Int)) = false := by simpa using q
    go_enter Try.func14, Try.ntmps14
    go_wp2
    go_loopw [11] (fun i wr => ∃ (k : Nat), i = .int .i64 (k : Int) ∧ k ≤ n2 ∧ Hid (EqTo l1 l2 k) ∧ Below w.heap.size w wr) (fun i _ => n2 - (intOf i).toNat)
    case atStart => exact ⟨0, rfl, Nat.zero_le _, EqTo.start l1 l2, Below.refl _ _⟩
    case round =>
      obtain ⟨k, rfl, hk, Hok, hbel⟩ := hrel
      by_cases hlt : k < n2
      · have hr1 := h1.below hbel
        have hr2 := h2.below hbel
        obtain ⟨b, off, v, Ap, np, cp, rfl, hx, hr, hc0, hc1, hc2, hc3, hc4⟩ := hr1.at_ (k := k) (by omega)
        obtain ⟨b', off', v', Ap', np', cp', rfl, hy, hr', hd0, hd1, hd2, hd3, hd4⟩ := hr2.at_ (k := k) (by omega)
        have G0 := Ext.cell hc0
        have G1 := Ext.cell hc1
        have G2 := Ext.cell hc2
        have G3 := Ext.cell hc3
        have G4 := Ext.cell hc4
        have K0 := Ext.cell hd0
        have K1 := Ext.cell hd1
        have K2 := Ext.cell hd2
        have K3 := Ext.cell hd3
        have K4 := Ext.cell hd4
        have hsz := hbel.size
        have Hx := Lib.hid hx
        have Hy := Lib.hid hy
        have j0 : (0 : Int) ≤ (k : Int) := by omega
        have j1 : (k : Int) < (n1 : Int) := by omega
        have j2 : (k : Int) < (n2 : Int) := by omega
        have HC := fun x : Ext wr => verSameOne_any v v' Ap Ap' np np' cp cp' x.w (hr.below x.below) (hr'.below x.below)
        clear hx hy hr hr' hc0 hc1 hc2 hc3 hc4 hd0 hd1 hd2 hd3 hd4 hr1 hr2
        cases hh : vEq v v'
        · simp only [hh] at HC
          have HC := Lib.hid HC
          have HS := Lib.hid (lEq_ne Hx.out Hy.out hh)
          clear hh
          go_wp2_with fail
          refine wp_region_ext (by kernel_rfl) (by kernel_rfl) ?_
          repeat (go_big_quiet_step ((go_at_call 35; exact Calls.ext_of (HC.out _))))
          refine wpQuiet_nil ?_
          intro w1 hw1
          have R4 := Lib.hid (hbel.trans ((ext_end hw1).mono hsz))
          clear hw1 G0 G1 G2 G3 G4 K0 K1 K2 K3 K4
          go_wp2
          go_ret
          exact ⟨retb HS.out, R4.out⟩
        · simp only [hh] at HC
          have HC := Lib.hid HC
          have HS := Lib.hid (Hok.out.vstep Hx.out Hy.out hh)
          clear hh
          go_wp2_with fail
          refine wp_region_ext (by kernel_rfl) (by kernel_rfl) ?_
          repeat (go_big_quiet_step ((go_at_call 35; exact Calls.ext_of (HC.out _))))
          refine wpQuiet_nil ?_
          intro w1 hw1
          have R4 := Lib.hid (hbel.trans ((ext_end hw1).mono hsz))
          clear hw1 G0 G1 G2 G3 G4 K0 K1 K2 K3 K4
          go_wp2
          go_roundw
          case rel => exact ⟨k + 1, by go_num, by omega, HS.out, R4.out⟩
          case measure => simp [intOf]; omega
      · obtain rfl : k = n2 := by omega
        go_wp2
        go_ret
        exact ⟨retb HF.out, hbel⟩
  · go_enter Try.func14, Try.ntmps14
    go_wp2
    go_loopw [11] (fun i wr => ∃ (k : Nat), i = .int .i64 (k : Int) ∧ k ≤ n1 ∧ Hid (EqTo l1 l2 k) ∧ Below w.heap.size w wr) (fun i _ => n1 - (intOf i).toNat)
    case atStart => exact ⟨0, rfl, Nat.zero_le _, EqTo.start l1 l2, Below.refl _ _⟩
    case round =>
      obtain ⟨k, rfl, hk, Hok, hbel⟩ := hrel
      by_cases hlt : k < n1
      · have hr1 := h1.below hbel
        have hr2 := h2.below hbel
        obtain ⟨b, off, v, Ap, np, cp, rfl, hx, hr, hc0, hc1, hc2, hc3, hc4⟩ := hr1.at_ (k := k) (by omega)
        obtain ⟨b', off', v', Ap', np', cp', rfl, hy, hr', hd0, hd1, hd2, hd3, hd4⟩ := hr2.at_ (k := k) (by omega)
        have G0 := Ext.cell hc0
        have G1 := Ext.cell hc1
        have G2 := Ext.cell hc2
        have G3 := Ext.cell hc3
        have G4 := Ext.cell hc4
        have K0 := Ext.cell hd0
        have K1 := Ext.cell hd1
        have K2 := Ext.cell hd2
        have K3 := Ext.cell hd3
        have K4 := Ext.cell hd4
        have hsz := hbel.size
        have Hx := Lib.hid hx
        have Hy := Lib.hid hy
        have j0 : (0 : Int) ≤ (k : Int) := by omega
        have j1 : (k : Int) < (n1 : Int) := by omega
        have j2 : (k : Int) < (n2 : Int) := by omega
        have HC := fun x : Ext wr => verSameOne_any v v' Ap Ap' np np' cp cp' x.w (hr.below x.below) (hr'.below x.below)
        clear hx hy hr hr' hc0 hc1 hc2 hc3 hc4 hd0 hd1 hd2 hd3 hd4 hr1 hr2
        cases hh : vEq v v'
        · simp only [hh] at HC
          have HC := Lib.hid HC
          have HS := Lib.hid (lEq_ne Hx.out Hy.out hh)
          clear hh
          go_wp2_with fail
          refine wp_region_ext (by kernel_rfl) (by kernel_rfl) ?_
          repeat (go_big_quiet_step ((go_at_call 35; exact Calls.ext_of (HC.out _))))
          refine wpQuiet_nil ?_
          intro w1 hw1
          have R4 := Lib.hid (hbel.trans ((ext_end hw1).mono hsz))
          clear hw1 G0 G1 G2 G3 G4 K0 K1 K2 K3 K4
          go_wp2
          go_ret
          exact ⟨retb HS.out, R4.out⟩
        · simp only [hh] at HC
          have HC := Lib.hid HC
          have HS := Lib.hid (Hok.out.vstep Hx.out Hy.out hh)
          clear hh
          go_wp2_with fail
          refine wp_region_ext (by kernel_rfl) (by kernel_rfl) ?_
          repeat (go_big_quiet_step ((go_at_call 35; exact Calls.ext_of (HC.out _))))
          refine wpQuiet_nil ?_
          intro w1 hw1
          have R4 := Lib.hid (hbel.trans ((ext_end hw1).mono hsz))
          clear hw1 G0 G1 G2 G3 G4 K0 K1 K2 K3 K4
          go_wp2
          go_roundw
          case rel => exact ⟨k + 1, by go_num, by omega, HS.out, R4.out⟩
          case measure => simp [intOf]; omega
      · obtain rfl : k = n1 := by omega
        by_cases hh : k = n2
        · subst hh
          have HT := Lib.hid (lEq_all Hok.out e1 (by omega))
          go_wp2
          go_ret
          exact ⟨retb HT.out, hbel⟩
        · have HF := Lib.hid (lEq_len (l := l1) (l' := l2) (by omega))
          have q : ¬ ((k : Int) = (n2 : Int)) := by omega
          have q2 : ((k : Int) == (n2 : Int)) = false := by simpa using q
          go_wp2
          go_ret
          exact ⟨retb HF.out, hbel⟩
end Go.Proofs.Ytlcfknpmnoghbaa
