/-
  The walk of firthlaw04.VectGoes.
-/
import Derived.Test.YtjjemoiblbehoaaVectGoesPlain
import Derived.Test.YtjjemoiblbehoaaVectAwake
import Derived.OpenShut
namespace Go.Proofs.Ytjjemoiblbehoaa
open Go.RowKit
set_option linter.unusedVariables false

theorem bump_yes {l l' : List Int} {s b : Int} {A : Option Addr} {n c : Nat} {w : World} (g : Goes l l' s b) (hs : SlI w A n l) (hn : n * 8 ≤ 140737488351232) :
    Calls Try.prog 25 #[.slice A n c, .agg #[.int .i64 s, .int .i64 b]] w (NewVec w l' 0) := by
  have h := bump_any A n c l s b w hs hn
  rw [bumpL, bumpE, g.bump, g.set] at h
  exact h
theorem bump_again {l l' : List Int} {s b : Int} {A : Option Addr} {n c : Nat} {w : World} (g : Goes l l' s b) (hs : SlI w A n l') (hn : n * 8 ≤ 140737488351232) :
    Calls Try.prog 25 #[.slice A n c, .agg #[.int .i64 s, .int .i64 b]] w (NewVec w [] 1) := by
  have h := bump_any A n c l' s b w hs hn
  rw [bumpL, bumpE, g.again] at h
  exact h

set_option maxHeartbeats 2000000 in
set_option maxRecDepth 100000 in
theorem vectGoes_walk (a0 : Option Addr) (len0 cap0 : Nat) (l0 : List Int) (a1 : Option Addr) (len1 cap1 : Nat) (l1 : List Int) (w : World)
    (s0 : SlI w a0 len0 l0) (f0 : ∀ z ∈ l0, (Lit.int .i64 z).wf = true) (b0 : len0 ≤ cap0) (z0 : cap0 * 8 ≤ 140737488351232) (s1 : SlI w a1 len1 l1) (f1 : ∀ z ∈ l1, (Lit.int .i64 z).wf = true) (b1 : len1 ≤ cap1) (z1 : cap1 * 8 ≤ 140737488351232) :
    Calls Try.prog 7 #[.slice a0 len0 cap0, .slice a1 len1 cap1] w fun e w' => e = .returned (.bool true) ∧ Below w.heap.size w w' := by
  have hn0 : len0 ≤ 140737488351232 := by omega
  have hn1 : len1 ≤ 140737488351232 := by omega
  have hl0 := s0.len
  have F1 := Lib.hid f1
  clear f0 f1
  cases hr : rightB l0
  · go_enter Try.func7, Try.ntmps7
    go_wp2_with fail
    refine (awake_any w).mono ?_
    rintro e w1 ⟨rfl, B1⟩
    have y1 := B1.size
    go_wp2_with fail
    refine (refRight_any a0 len0 cap0 l0 w1 (Sl.below s0 B1) hn0).mono ?_
    rw [hr]
    rintro e w' ⟨rfl, rfl⟩
    go_wp2_with fail
    refine (awake_any w1).mono ?_
    rintro e w2 ⟨rfl, B2⟩
    go_wp2
    go_ret
    exact ⟨rfl, B1.trans (B2.mono y1)⟩
  · have hlen := (right_true hr).2.1
    go_enter Try.func7, Try.ntmps7
    go_wp2_with fail
    refine (awake_any w).mono ?_
    rintro e w1 ⟨rfl, B1⟩
    have y1 := B1.size
    have S0 := Sl.below s0 B1
    go_wp2_with fail
    refine (refRight_any a0 len0 cap0 l0 w1 S0 hn0).mono ?_
    rw [hr]
    rintro e w' ⟨rfl, rfl⟩
    have Hr := Lib.hid hr
    clear hr
    go_wp2
    go_loopw [0, 5] (fun v i wr => ∃ (k : Nat) (lv : List Int) (A : Option Addr) (n c : Nat), i = .int .i64 (k : Int) ∧ v = .slice A n c ∧ k ≤ len1 ∧ k ≤ 200 ∧ Hid (rightB lv = true) ∧ n ≤ 16 ∧ SlI wr A n lv ∧ Below w.heap.size w wr) (fun _ i _ => len1 - (intOf i).toNat)
    case atStart => exact ⟨0, l0, a0, len0, cap0, rfl, rfl, Nat.zero_le _, by omega, Hr, by omega, S0, B1⟩
    case round =>
      obtain ⟨k, lv, A, n, c, rfl, rfl, hk, hk2, Hrv, hn16, Sv, hbel⟩ := hrel
      have hsz := hbel.size
      clear S0 B1 y1
      by_cases hlt : k < len1
      · by_cases hlt2 : k < 200
        · obtain ⟨b, off, s, rfl, hs, hc⟩ := SlI.at_ (Sl.below s1 hbel) hlt
          have hw := bounds_i64 (F1.out _ (List.mem_of_getElem? hs))
          have CN := next_any A n c lv s wr Sv (by omega)
          have hE := nextOf_err lv s
          rcases hN : nextOf lv s with ⟨x, y, z⟩
          rw [hN] at CN hE
          simp only at hE
          clear hs
          rcases hE with rfl | rfl | rfl
          · obtain ⟨rfl, G⟩ := goes_facts hN
            generalize lv.set (x.toNat - 1) y = lw at G
            have HG := Lib.hid G
            have C := Lib.hid CN
            clear hN CN G
            go_wp2_with fail
            refine C.out.mono ?_
            rintro e w2 ⟨rfl, b2⟩
            have D3 := Dot2.new w2 x y 31
            have b3 : Below wr.heap.size wr (w2.alloc (.cells #[.int .i64 x, .int .i64 y] 31)) := b2.alloc b2.size _
            have B3 := hbel.trans (b3.mono hsz)
            have V3 := Sl.below Sv b3
            have C3 := Lib.hid (bump_yes (c := c) HG.out V3 (by omega))
            have Y3 := Lib.hid B3.size
            clear b2 b3 C hbel Sv
            go_wp2_with fail
            refine C3.out.mono ?_
            rintro e w4 ⟨Aw, nw, cw, rfl, W4, hcw, -, b4⟩
            obtain rfl : nw = n := by have e1 := SlI.len W4; have e2 := HG.out.len; have e3 := SlI.len V3; omega
            have D4 := D3.below b4
            have d40 := D4.1
            have d41 := D4.2
            have V4 := Sl.below V3 b4
            have B4 := B3.trans (b4.mono Y3.out)
            have Y4 := Lib.hid B4.size
            have C4 := Lib.hid (bump_again (c := cw) HG.out W4 (by omega))
            clear b4 B3 D3 C3 V3
            go_wp2_with fail
            refine C4.out.mono ?_
            rintro e w5 ⟨Ax, nx, cx, rfl, -, -, -, b5⟩
            have D5 := D4.below b5
            have d50 := D5.1
            have d51 := D5.2
            have V5 := Sl.below V4 b5
            have W5 := Sl.below W4 b5
            have B5 := B4.trans (b5.mono Y4.out)
            have Y5 := Lib.hid B5.size
            have C5 := covers_any A nw c lv x y w5 V5 (by omega) hw.1
            rw [HG.out.cov] at C5
            have C5' := Lib.hid C5
            clear b5 B4 D4 d40 d41 C4 C5 V4 W4
            go_wp2_with fail
            refine C5'.out.mono ?_
            rintro e w6 ⟨rfl, b6⟩
            have D6 := D5.below b6
            have d60 := D6.1
            have d61 := D6.2
            have V6 := Sl.below V5 b6
            have W6 := Sl.below W5 b6
            have B6 := B5.trans (b6.mono Y5.out)
            have Y6 := Lib.hid B6.size
            have C6 := covers_any Aw nw cw lw x y w6 W6 (by omega) hw.1
            rw [HG.out.cov'] at C6
            have C6' := Lib.hid C6
            clear b6 B5 D5 d50 d51 C5' C6 V5 W5
            go_wp2_with fail
            refine C6'.out.mono ?_
            rintro e w7 ⟨rfl, b7⟩
            have V7 := Sl.below V6 b7
            have W7 := Sl.below W6 b7
            have B7 := B6.trans (b7.mono Y6.out)
            have Y7 := Lib.hid B7.size
            have C7 := below_any A Aw nw nw c cw lv lw w7 V7 W7 (by omega) (by omega)
            rw [HG.out.up] at C7
            have C7' := Lib.hid C7
            clear b7 B6 D6 d60 d61 C6' C7 V6 W6
            go_wp2_with fail
            refine C7'.out.mono ?_
            rintro e w8 ⟨rfl, b8⟩
            have V8 := Sl.below V7 b8
            have W8 := Sl.below W7 b8
            have B8 := B7.trans (b8.mono Y7.out)
            have Y8 := Lib.hid B8.size
            have C8 := below_any Aw A nw nw cw c lw lv w8 W8 V8 (by omega) (by omega)
            rw [HG.out.down] at C8
            have C8' := Lib.hid C8
            clear b8 B7 C7' C8 V7 W7
            go_wp2_with fail
            refine C8'.out.mono ?_
            rintro e w9 ⟨rfl, b9⟩
            have W9 := Sl.below W8 b9
            have B9 := B8.trans (b9.mono Y8.out)
            have HRW := Lib.hid HG.out.right
            clear b9 B8 C8' V8 W8
            go_wp2
            go_roundw
            case rel => exact ⟨k + 1, lw, Aw, nw, cw, by go_num, rfl, by omega, by omega, HRW.out, by omega, W9, B9⟩
            case measure => simp [intOf]; omega
          · have C := Lib.hid CN
            clear hN CN
            go_wp2_with fail
            refine C.out.mono ?_
            rintro e w2 ⟨rfl, b2⟩
            have b3 : Below wr.heap.size wr (w2.alloc (.cells #[.int .i64 x, .int .i64 y] 31)) := b2.alloc b2.size _
            have B3 := hbel.trans (b3.mono hsz)
            have V3 := Sl.below Sv b3
            clear b2 b3 C hbel Sv
            go_wp2
            go_roundw
            case rel => exact ⟨k + 1, lv, A, n, c, by go_num, rfl, by omega, by omega, Hrv, by omega, V3, B3⟩
            case measure => simp [intOf]; omega
          · have C := Lib.hid CN
            have HM := next_full hN
            clear hN CN
            go_wp2_with fail
            refine C.out.mono ?_
            rintro e w2 ⟨rfl, b2⟩
            have b3 : Below wr.heap.size wr (w2.alloc (.cells #[.int .i64 x, .int .i64 y] 31)) := b2.alloc b2.size _
            have B3 := hbel.trans (b3.mono hsz)
            have V3 := Sl.below Sv b3
            have hc2 := (b3.cell (World.block_lt_of_cell? wr _ hc)).trans hc
            have CA := at_any A n c lv s _ V3 (by omega)
            rw [HM] at CA
            have CA' := Lib.hid CA
            have HV3 := Lib.hid V3
            have HB3 := Lib.hid B3
            clear b2 b3 C hbel Sv CA HM V3 B3
            go_wp2_with fail
            refine CA'.out.mono ?_
            rintro e w' ⟨rfl, rfl⟩
            go_wp2
            go_roundw
            case rel => exact ⟨k + 1, lv, A, n, c, by go_num, rfl, by omega, by omega, Hrv, by omega, HV3.out, HB3.out⟩
            case measure => simp [intOf]; omega
        · go_wp2
          go_ret
          exact ⟨rfl, hbel⟩
      · go_wp2
        go_ret
        exact ⟨rfl, hbel⟩
end Go.Proofs.Ytjjemoiblbehoaa
