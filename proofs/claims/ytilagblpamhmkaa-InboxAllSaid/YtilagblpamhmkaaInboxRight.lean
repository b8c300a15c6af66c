/-
  firthlaw18: is a far write right, may it be done?
-/
import Derived.Test.YtilagblpamhmkaaInboxLaw
import Derived.Test.YtilagblpamhmkaaCodeRefRight
namespace Go.Proofs.Ytilagblpamhmkaa
open Go.RowKit
set_option linter.unusedVariables false

theorem rightF_no {f : Fa} (h : rightR f.rc = false) : rightF f = false := by unfold rightF; rw [h]; rfl
theorem rightF_yes {f : Fa} {n : Nat} (h : rightR f.rc = true) (hn : f.rc.vers.length = n) : rightF f = decide ((n : Int) = 1) := by
  unfold rightF
  rw [h, hn, Bool.true_and]
  exact decide_eq_decide.2 (by omega)
set_option maxHeartbeats 1000000 in
theorem rightL_any (w : World) (f : Fa) (A : Option Addr) (n c : Nat) (sl : Value) (hv : RRow w f.rc A n c) :
    Calls Try.prog 20 #[.agg #[.int .i64 f.src, .int .i64 f.seq, .string f.rc.key, .slice A n c, sl]] w (ValE w (.bool (rightF f))) := by
  have b1 : Below w.heap.size w (w.alloc (.cells #[.int .i64 f.src, .int .i64 f.seq, .string f.rc.key, .slice A n c, sl] 35)) := (Below.refl _ _).alloc (Nat.le_refl _) _
  have k1 := heap_alloc_new w (.cells #[.int .i64 f.src, .int .i64 f.seq, .string f.rc.key, .slice A n c, sl] 35)
  have CR := Lib.hid (refRightRec_any f.rc A n c _ (hv.below b1))
  have HL := Lib.hid hv.sl.len
  have HC := Lib.hid (fun (W' : World) (bl : Below (w.alloc (.cells #[.int .i64 f.src, .int .i64 f.seq, .string f.rc.key, .slice A n c, sl] 35)).heap.size (w.alloc (.cells #[.int .i64 f.src, .int .i64 f.seq, .string f.rc.key, .slice A n c, sl] 35)) W') => (bl.cell (p := ⟨w.heap.size, 3, none⟩) (lt_of_block k1)).trans (row_cell (j := 3) k1 rfl))
  have x2 := row_cell (j := 2) k1 rfl
  have x3 := row_cell (j := 3) k1 rfl
  have HB := Lib.hid b1
  clear b1 k1 hv
  go_enter Try.func20, Try.ntmps20
  go_wp2_with fail
  refine CR.out.mono ?_
  rintro e w1 ⟨rfl, b2⟩
  have y3 := HC.out w1 b2
  have HE := Lib.hid (HB.out.trans (b2.mono HB.out.size))
  clear x2 x3 b2 CR HC
  cases hr : rightR f.rc
  · have HF := Lib.hid (rightF_no hr)
    clear hr
    go_wp2
    go_ret
    exact ⟨retb HF.out, HE.out⟩
  · have HF := Lib.hid (rightF_yes hr HL.out)
    clear hr
    obtain ⟨d, hd⟩ : ∃ d, decide ((n : Int) = 1) = d := ⟨_, rfl⟩
    have q1 : ((n : Int) == 1) = d := by rw [← hd]; rfl
    rw [hd] at HF
    clear hd
    go_wp2
    go_ret
    exact ⟨retb HF.out, HE.out⟩
theorem fa_pos {f : Fa} (h : rightF f = true) : 1 ≤ f.ver.s := by
  obtain ⟨h1, h2⟩ := rightF_rec h
  obtain ⟨_, _, h3⟩ := rightR_true.1 h1
  obtain ⟨x, hx⟩ := List.length_eq_one_iff.1 h2
  have h4 := ((rightV_true.1 h3).1.1 x (by rw [hx]; exact List.mem_singleton.2 rfl)).1
  have e : f.ver = x := by unfold Fa.ver; rw [hx]; rfl
  rw [e]
  exact (dotB_true.1 (okVB_true.1 h4).1).1
/-! ### Four counts of none -/
def may0 (f : Fa) : Bool := decide (f.ver.s ≤ 4) && (decide (f.ver.n = 1) && holdsB [0, 0, 0, 0] f.ver.past)
theorem nextOf_0 {s : Int} (h1 : 1 ≤ s) (h2 : s ≤ 4) : nextOf [0, 0, 0, 0] s = (s, 1, 0) := by
  obtain rfl | rfl | rfl | rfl : s = 1 ∨ s = 2 ∨ s = 3 ∨ s = 4 := by omega
  all_goals rfl
theorem mayB_0 {f : Fa} (h1 : 1 ≤ f.ver.s) : mayB [0, 0, 0, 0] f = may0 f := by
  unfold mayB may0
  by_cases h2 : f.ver.s ≤ 4
  · rw [nextOf_0 h1 h2, decide_eq_true h2]
    simp only [decide_true, Bool.true_and, true_and]
    congr 1
    exact decide_eq_decide.2 ⟨fun h => h.symm, fun h => h.symm⟩
  · have : nextOf [0, 0, 0, 0] f.ver.s = (0, 0, 1) := by unfold nextOf; rw [if_pos (.inr (.inr (by simp; omega)))]
    rw [this, decide_eq_false h2]
    rfl
theorem at0 {w : World} {b off : Nat} {A : Option Addr} {s : Int} (hs : SlI w A 4 [0, 0, 0, 0]) (h1 : 1 ≤ s) (h2 : s ≤ 4) (hA : A = some ⟨b, off, none⟩) : w.cell? ⟨b, off + (s.toNat - 1), none⟩ = some (.int .i64 0) := by
  subst hA
  obtain ⟨z, hz, hc⟩ := hs.cell (k := s.toNat - 1) (by omega)
  rw [hc]
  obtain rfl | rfl | rfl | rfl : s = 1 ∨ s = 2 ∨ s = 3 ∨ s = 4 := by omega
  all_goals (have hz' : some (0 : Int) = some z := hz; injection hz' with hz'; rw [hz'])
set_option maxHeartbeats 2000000 in
set_option maxRecDepth 100000 in
theorem readyL_any (w : World) (f : Fa) (A : Option Addr) (n c : Nat) (sl : Value) (Av : Option Addr) (cv : Nat) (hv : SlV w A n f.rc.vers) (h1 : f.rc.vers.length = 1) (hs : SlI w Av 4 [0, 0, 0, 0]) (hp : 1 ≤ f.ver.s) :
    Calls Try.prog 21 #[.agg #[.int .i64 f.src, .int .i64 f.seq, .string f.rc.key, .slice A n c, sl], .slice Av 4 cv] w (ValE w (.bool (mayB [0, 0, 0, 0] f))) := by
  rw [mayB_0 hp]
  have b1 : Below w.heap.size w (w.alloc (.cells #[.int .i64 f.src, .int .i64 f.seq, .string f.rc.key, .slice A n c, sl] 35)) := (Below.refl _ _).alloc (Nat.le_refl _) _
  have k1 := heap_alloc_new w (.cells #[.int .i64 f.src, .int .i64 f.seq, .string f.rc.key, .slice A n c, sl] 35)
  have x3 := row_cell (j := 3) k1 rfl
  obtain ⟨b, off, A2, n2, c2, rfl, rfl, hvr, e0, e1, e2, e3, e4⟩ := ver_at5 (hv.below b1) h1
  have i5 : (0 : Int) < ((1 : Nat) : Int) := by decide
  have hs1 : (w.alloc (.cells #[.int .i64 f.src, .int .i64 f.seq, .string f.rc.key, .slice (some ⟨b, off, none⟩) 1 c, sl] 35)).heap.size = w.heap.size + 1 := by simp
  have b2 := b1.alloc (by omega) (.cells #[.int .i64 f.ver.s, .int .i64 f.ver.n, .slice A2 n2 c2, .bool f.ver.gone, .string f.ver.val] 42)
  have k2 := heap_alloc_new (w.alloc (.cells #[.int .i64 f.src, .int .i64 f.seq, .string f.rc.key, .slice (some ⟨b, off, none⟩) 1 c, sl] 35)) (.cells #[.int .i64 f.ver.s, .int .i64 f.ver.n, .slice A2 n2 c2, .bool f.ver.gone, .string f.ver.val] 42)
  rw [hs1] at k2
  have hvr2 := hvr.below (Below.alloc (Below.refl _ _) (Nat.le_refl _) (.cells #[.int .i64 f.ver.s, .int .i64 f.ver.n, .slice A2 n2 c2, .bool f.ver.gone, .string f.ver.val] 42))
  have hsv : SlI _ Av 4 [0, 0, 0, 0] := Sl.below hs b2
  obtain ⟨W2, hW2⟩ : ∃ W2, ((w.alloc (.cells #[.int .i64 f.src, .int .i64 f.seq, .string f.rc.key, .slice (some ⟨b, off, none⟩) 1 c, sl] 35)).alloc (.cells #[.int .i64 f.ver.s, .int .i64 f.ver.n, .slice A2 n2 c2, .bool f.ver.gone, .string f.ver.val] 42)) = W2 := ⟨_, rfl⟩
  rw [hW2] at k2 hvr2 hsv b2
  obtain ⟨vb, vo, z0, hA, -, -⟩ := hsv.at_ (k := 0) (by omega)
  have HA := Lib.hid hA
  have HS := Lib.hid hsv
  have hA2 := hA
  subst hA2
  have X0 := Ext.cell (row_cell (j := 0) k2 rfl)
  have X1 := Ext.cell (row_cell (j := 1) k2 rfl)
  have X2 := Ext.cell (row_cell (j := 2) k2 rfl)
  have CH := Lib.hid (fun z : Ext W2 => refHolds_any (some ⟨vb, vo, none⟩) 4 cv [0, 0, 0, 0] A2 n2 c2 f.ver.past z.w (Sl.below hsv z.below) (by omega) (Sl.below hvr2.sl z.below) hvr2.n9 hvr2.wfp)
  have HW := Lib.hid hW2
  have HB := Lib.hid b2
  obtain ⟨hb, hhb⟩ : ∃ hb, holdsB [0, 0, 0, 0] f.ver.past = hb := ⟨_, rfl⟩
  rw [hhb] at CH
  have HM := Lib.hid (show may0 f = (decide (f.ver.s ≤ 4) && (decide (f.ver.n = 1) && hb)) from by unfold may0; rw [hhb])
  have HP := Lib.hid hp
  have hwf := bounds_i64 hvr.wf.1
  have HWF := Lib.hid hwf
  clear b1 k1 k2 hvr hvr2 hs1 hv hs hW2 hsv b2 hhb h1 hA hp hwf
  by_cases h4 : f.ver.s ≤ 4
  · have X3 := Ext.cell (at0 HS.out HP.out h4 rfl)
    have j1 : (0 : Int) ≤ f.ver.s - 1 := by have := HP.out; omega
    have j2 : f.ver.s - 1 < 4 := by omega
    have q2 : IntKind.i64.wrap (f.ver.s - 1) = f.ver.s - 1 := IntWalk.i64_in _ (by omega)
    have q3 : decide (f.ver.s ≤ 4) = true := decide_eq_true h4
    by_cases hn : f.ver.n = 1
    · have q1 : (f.ver.n == 1) = true := beq_iff_eq.2 hn
      have HF := Lib.hid hn
      have X4 := X3
      have HQ := Lib.hid (show may0 f = hb from by rw [HM.out, decide_eq_true h4, decide_eq_true hn]; rfl)
      clear hn h4
      go_enter Try.func21, Try.ntmps21
      go_wp2_with fail
      rw [HW.out]
      go_wp2_with fail
      refine wp_region_ext (by kernel_rfl) (by kernel_rfl) ?_
      repeat (go_big_quiet_step (first | (go_at_call 15; with_reducible exact Calls.ext_of (CH.out _)) | fail))
      refine wpQuiet_nil ?_
      intro w6 hw6
      have HE := Lib.hid (HB.out.trans ((ext_end hw6).mono HB.out.size))
      clear hw6 X0 X1 X2 X3 X4 CH
      go_wp2
      go_ret
      exact ⟨retb HQ.out, HE.out⟩
    · have q1 : (f.ver.n == 1) = false := beq_eq_false_iff_ne.2 hn
      have X4 := X3
      have HQ := Lib.hid (show may0 f = false from by rw [HM.out, decide_eq_true h4, decide_eq_false hn]; rfl)
      clear hn h4
      go_enter Try.func21, Try.ntmps21
      go_wp2_with fail
      rw [HW.out]
      go_wp2_with fail
      refine wp_region_ext (by kernel_rfl) (by kernel_rfl) ?_
      repeat (go_big_quiet_step (first | (go_at_call 15; with_reducible exact Calls.ext_of (CH.out _)) | fail))
      refine wpQuiet_nil ?_
      intro w6 hw6
      have HE := Lib.hid (HB.out.trans ((ext_end hw6).mono HB.out.size))
      clear hw6 X0 X1 X2 X3 X4 CH
      go_wp2
      go_ret
      exact ⟨retb HQ.out, HE.out⟩
  · have X3 := X2
    have X4 := X2
    have q3 : decide (f.ver.s ≤ 4) = false := decide_eq_false h4
    have HQ := Lib.hid (show may0 f = false from by rw [HM.out, decide_eq_false h4]; rfl)
    clear h4
    go_enter Try.func21, Try.ntmps21
    go_wp2_with fail
    rw [HW.out]
    go_wp2_with fail
    refine wp_region_ext (by kernel_rfl) (by kernel_rfl) ?_
    repeat (go_big_quiet_step (first | (go_at_call 15; with_reducible exact Calls.ext_of (CH.out _)) | fail))
    refine wpQuiet_nil ?_
    intro w6 hw6
    have HE := Lib.hid (HB.out.trans ((ext_end hw6).mono HB.out.size))
    clear hw6 X0 X1 X2 X3 X4 CH
    go_wp2
    go_ret
    exact ⟨retb HQ.out, HE.out⟩
end Go.Proofs.Ytilagblpamhmkaa
