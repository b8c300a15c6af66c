/-
  The walk of firthlaw08.NetFull.
-/
import Derived.Test.YtcdbpimpmhfkhaaNetCopiesWalk
namespace Go.Proofs.Ytcdbpimpmhfkhaa
open Go.RowKit
set_option linter.unusedVariables false

theorem look_rep (p : Pk) (i : Int) : lookP (List.replicate 4096 p) i = if 0 ≤ i ∧ i < 4096 then some p else none := by
  unfold lookP
  by_cases h : 0 ≤ i
  · rw [if_pos h, List.getElem?_replicate]
    by_cases h2 : i < 4096
    · rw [if_pos (by omega), if_pos ⟨h, h2⟩]
    · rw [if_neg (by omega), if_neg (by omega)]
  · rw [if_neg h, if_neg (by omega)]
theorem add_rep (p : Pk) (k : Nat) (h : k < 4096) : addL (List.replicate k p) p = List.replicate (k + 1) p ∧ sendC (List.replicate k p) ⟨k, 0, 0⟩ = ⟨((k + 1 : Nat) : Int), 0, 0⟩ ∧ decide ((List.replicate k p).length ≠ 4096) = true := by
  have e : (List.replicate k p).length ≠ 4096 := by rw [List.length_replicate]; omega
  unfold addL sendC
  rw [if_neg e, if_neg e]
  refine ⟨by rw [← List.replicate_succ'], ?_, by simpa using e⟩
  simp only [Cnt.mk.injEq, and_self, and_true]
  omega
theorem full_rep (p : Pk) (c : Cnt) : addL (List.replicate 4096 p) p = List.replicate 4096 p ∧ sendC (List.replicate 4096 p) c = c ∧ decide ((List.replicate 4096 p).length ≠ 4096) = false := by
  have e : (List.replicate 4096 p).length = 4096 := by rw [List.length_replicate]
  unfold addL sendC
  rw [if_pos e, if_pos e]
  exact ⟨rfl, rfl, decide_eq_false (fun h => h e)⟩
theorem copy_full (p : Pk) : copyL (List.replicate 4096 p) 0 = List.replicate 4096 p ∧ copyB (List.replicate 4096 p) 0 = false := by
  unfold copyL copyB
  rw [look_rep, if_pos (by omega)]
  exact ⟨(full_rep p ⟨0, 0, 0⟩).1, (full_rep p ⟨0, 0, 0⟩).2.2⟩
theorem copy_one (p : Pk) (at_ : Int) (h : 0 ≤ at_ ∧ at_ < 4096) : copyB ((List.replicate 4096 p).eraseIdx at_.toNat) 0 = true ∧ (copyL ((List.replicate 4096 p).eraseIdx at_.toNat) 0).length = 4096 := by
  have hl : ((List.replicate 4096 p).eraseIdx at_.toNat).length = 4095 := by rw [List.length_eraseIdx_of_lt (by rw [List.length_replicate]; omega), List.length_replicate]
  unfold copyB copyL
  rcases look_cases ((List.replicate 4096 p).eraseIdx at_.toNat) 0 with ⟨h1, h2⟩ | ⟨k, q, _, _, _, h4⟩
  · omega
  · rw [h4]
    simp only []
    unfold addL
    rw [if_neg (by omega), List.length_append, hl]
    exact ⟨by simp [hl], rfl⟩
set_option maxHeartbeats 8000000 in
set_option maxRecDepth 100000 in
theorem netFull_walk (cs : List Value) (xp : pkSh.T) (a : Int) (w : World) (r0 : Rd w pkSh cs xp) (w1 : (Lit.int .i64 a).wf = true) :
    Calls Try.prog 5 #[.agg cs.toArray, .int .i64 a] w fun e w' => e = .returned (.bool true) ∧ Below w.heap.size w w' := by
  obtain ⟨p, A, n, k, rfl, hs, hc, hn, hwf⟩ := pk_open r0
  show Calls _ _ #[.agg #[.int .i64 p.fs, .int .i64 p.fn, .int .i64 p.ts, .int .i64 p.tn, .slice A n k], .int .i64 a] _ _
  clear r0 w1
  have kb : (w.alloc (.cells #[.int .i64 p.fs, .int .i64 p.fn, .int .i64 p.ts, .int .i64 p.tn, .slice A n k] 32)).heap[w.heap.size]? = some (.cells #[.int .i64 p.fs, .int .i64 p.fn, .int .i64 p.ts, .int .i64 p.tn, .slice A n k] 32 (0, 0)) := heap_alloc_new _ _
  have HA := Lib.hid (And.intro kb (And.intro (Sl.alloc hs (.cells #[.int .i64 p.fs, .int .i64 p.fn, .int .i64 p.ts, .int .i64 p.tn, .slice A n k] 32)) ((Below.refl _ w).alloc (Nat.le_refl _) (.cells #[.int .i64 p.fs, .int .i64 p.fn, .int .i64 p.ts, .int .i64 p.tn, .slice A n k] 32))))
  clear kb hs
  have hcase : 64 < n ∨ n ≤ 64 := by omega
  go_enter Try.func5, Try.ntmps5
  go_wp2_with fail
  refine (awake_any _).mono ?_
  rintro e w1 ⟨rfl, B1⟩
  obtain ⟨kb, hs, B0⟩ := HA.out
  have kb1 := (B1.block w.heap.size (by simp)).trans kb
  have hz1 : w.heap.size < w1.heap.size := heap_lt kb1
  have hs1 := Sl.below hs B1
  have B01 := B0.trans (B1.mono (by simp))
  have x4 := blk_cell (j := 4) kb1 rfl
  have HX := Lib.hid (And.intro kb1 (And.intro (show SlB w1 A n p.d from hs1) B01))
  clear kb hs B0 B1 kb1 hs1 B01 HA
  rcases hcase with hcase | hcase
  · have d1 : decide (64 < n) = true := by simpa using hcase
    go_wp2_with fail
    refine (awake_any _).mono ?_
    rintro e w2 ⟨rfl, B2⟩
    have HB2 := Lib.hid (HX.out.2.2.trans (B2.mono HX.out.2.2.size))
    clear B2
    go_wp2
    go_ret
    exact ⟨rfl, HB2.out⟩
  · have d1 : decide (64 < n) = false := by simp; omega
    go_wp2_with fail
    refine (newP w1).mono ?_
    rintro e w2 ⟨q, rfl, H2⟩
    have HH2 := Lib.hid H2
    clear H2 x4
    go_wp2
    go_loopw [6] (fun i wr => ∃ kk : Nat, i = .int .i64 (kk : Int) ∧ kk ≤ 4096 ∧ Hid (NetP (fun b => b < w1.heap.size) w1 wr q (List.replicate kk p) (fun _ => false) ⟨(kk : Int), 0, 0⟩ 0)) (fun i _ => 4096 - (intOf i).toNat)
    case atStart => exact ⟨0, rfl, Nat.zero_le _, HH2⟩
    case round =>
      obtain ⟨kk, rfl, hkk, HL⟩ := hrel
      clear HH2
      by_cases hlt : kk < 4096
      · have kb2 := (HL.out.fr.block w.heap.size hz1 (by omega)).trans HX.out.1
        have x0 := blk_cell (j := 0) kb2 rfl
        have x1 := blk_cell (j := 1) kb2 rfl
        have x2 := blk_cell (j := 2) kb2 rfl
        have x3 := blk_cell (j := 3) kb2 rfl
        have x4 := blk_cell (j := 4) kb2 rfl
        have CS := sendP p A n k HL.out (by show (kk : Int) < _; omega) hwf (Sl.fr' HX.out.2.1 HL.out.fr (fun b hb => by omega)) hc hn
        obtain ⟨r1, r2, r3⟩ := add_rep p kk hlt
        rw [r1, r2, r3] at CS
        have HC := Lib.hid CS
        clear CS r1 r2 r3 kb2 HL
        go_wp2_with fail
        refine HC.out.mono ?_
        rintro e w3 ⟨rfl, H3⟩
        have HH3 := Lib.hid H3
        clear H3 HC x0 x1 x2 x3 x4
        go_wp2
        go_roundw
        case rel => exact ⟨kk + 1, by go_num, by omega, HH3⟩
        case measure => simp [intOf]; omega
      · obtain rfl : kk = 4096 := by omega
        have CT := Lib.hid (show Calls Try.prog 17 #[.pointer (some ⟨q, 0, none⟩)] wr (fun e w' => e = .returned (.tuple #[.int .i64 4096, .int .i64 0, .int .i64 0]) ∧ ∃ k, w' = wr.drewN k) from tallyP HL.out)
        go_wp2_with fail
        refine CT.out.mono ?_
        rintro e w3 ⟨rfl, d, rfl⟩
        have H3 := HL.out.below (below_drewN (Below.refl _ wr) d)
        have kb2 := (H3.fr.block w.heap.size hz1 (by omega)).trans HX.out.1
        have x0 := blk_cell (j := 0) kb2 rfl
        have x1 := blk_cell (j := 1) kb2 rfl
        have x2 := blk_cell (j := 2) kb2 rfl
        have x3 := blk_cell (j := 3) kb2 rfl
        have x4 := blk_cell (j := 4) kb2 rfl
        have CS := sendP p A n k H3 (by decide) hwf (Sl.fr' HX.out.2.1 H3.fr (fun b hb => by omega)) hc hn
        obtain ⟨r1, r2, r3⟩ := full_rep p ⟨((4096 : Nat) : Int), 0, 0⟩
        rw [r1, r2, r3] at CS
        have HC := Lib.hid CS
        clear CS r1 r2 r3 kb2 HL H3 CT
        go_wp2_with fail
        refine HC.out.mono ?_
        rintro e w4 ⟨rfl, H4⟩
        have CC := copyP 0 H4
        rw [(copy_full p).1, (copy_full p).2] at CC
        have HC2 := Lib.hid CC
        clear CC H4 HC x0 x1 x2 x3 x4
        go_wp2_with fail
        refine HC2.out.mono ?_
        rintro e w5 ⟨rfl, H5⟩
        have CL := loseP a H5 (by decide)
        clear HC2
        by_cases ha : 0 ≤ a ∧ a < 4096
        · have d2 : decide (0 ≤ a) = true := by simpa using ha.1
          have d3 : decide (a < 4096) = true := by simpa using ha.2
          unfold loseL loseC at CL
          rw [look_rep, if_pos ha] at CL
          simp only [Option.isSome_some, if_true] at CL
          have HCL := Lib.hid CL
          have HO := Lib.hid (copy_one p a ha)
          clear CL ha H5
          go_wp2_with fail
          refine HCL.out.mono ?_
          rintro e w6 ⟨rfl, H6⟩
          have C6 := copyP 0 H6
          rw [HO.out.1] at C6
          have HC6 := Lib.hid C6
          clear C6 H6 HCL
          go_wp2_with fail
          refine HC6.out.mono ?_
          rintro e w7 ⟨rfl, H7⟩
          have C7 := lenP H7
          rw [HO.out.2] at C7
          have HC7 := Lib.hid (show Calls Try.prog 14 #[.pointer (some ⟨q, 0, none⟩)] w7 (fun e w' => e = .returned (.int .i64 4096) ∧ w7 = w') from C7)
          have HF := Lib.hid (HX.out.2.2.trans (H7.fr.toBelow.mono HX.out.2.2.size))
          clear C7 H7 HC6
          go_wp2_with fail
          refine HC7.out.mono ?_
          rintro e w' ⟨rfl, rfl⟩
          go_wp2
          go_ret
          exact ⟨rfl, HF.out⟩
        · unfold loseL loseC at CL
          rw [look_rep, if_neg ha] at CL
          simp only [Option.isSome_none, Bool.false_eq_true, if_false] at CL
          have HCL := Lib.hid CL
          have ha' : a < 0 ∨ 4096 ≤ a := by omega
          clear CL ha H5
          rcases ha' with ha | ha
          · have d2 : decide (0 ≤ a) = false := by simp; omega
            clear ha
            go_wp2_with fail
            refine HCL.out.mono ?_
            rintro e w6 ⟨rfl, H6⟩
            have C6 := copyP 0 H6
            rw [(copy_full p).1, (copy_full p).2] at C6
            have HC6 := Lib.hid C6
            clear C6 H6 HCL
            go_wp2_with fail
            refine HC6.out.mono ?_
            rintro e w7 ⟨rfl, H7⟩
            have C7 := lenP H7
            rw [List.length_replicate] at C7
            have HC7 := Lib.hid (show Calls Try.prog 14 #[.pointer (some ⟨q, 0, none⟩)] w7 (fun e w' => e = .returned (.int .i64 4096) ∧ w7 = w') from C7)
            have HF := Lib.hid (HX.out.2.2.trans (H7.fr.toBelow.mono HX.out.2.2.size))
            clear C7 H7 HC6
            go_wp2_with fail
            refine HC7.out.mono ?_
            rintro e w' ⟨rfl, rfl⟩
            go_wp2
            go_ret
            exact ⟨rfl, HF.out⟩
          · have d2 : decide (0 ≤ a) = true := by simp; omega
            have d3 : decide (a < 4096) = false := by simp; omega
            clear ha
            go_wp2_with fail
            refine HCL.out.mono ?_
            rintro e w6 ⟨rfl, H6⟩
            have C6 := copyP 0 H6
            rw [(copy_full p).1, (copy_full p).2] at C6
            have HC6 := Lib.hid C6
            clear C6 H6 HCL
            go_wp2_with fail
            refine HC6.out.mono ?_
            rintro e w7 ⟨rfl, H7⟩
            have C7 := lenP H7
            rw [List.length_replicate] at C7
            have HC7 := Lib.hid (show Calls Try.prog 14 #[.pointer (some ⟨q, 0, none⟩)] w7 (fun e w' => e = .returned (.int .i64 4096) ∧ w7 = w') from C7)
            have HF := Lib.hid (HX.out.2.2.trans (H7.fr.toBelow.mono HX.out.2.2.size))
            clear C7 H7 HC6
            go_wp2_with fail
            refine HC7.out.mono ?_
            rintro e w' ⟨rfl, rfl⟩
            go_wp2
            go_ret
            exact ⟨rfl, HF.out⟩
end Go.Proofs.Ytcdbpimpmhfkhaa
