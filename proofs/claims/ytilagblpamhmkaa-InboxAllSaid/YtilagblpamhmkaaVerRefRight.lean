/-
  Is a set of versions right? The document's answer.
-/
import Derived.Test.YtilagblpamhmkaaVerRight
namespace Go.Proofs.Ytilagblpamhmkaa
open Go.RowKit
set_option linter.unusedVariables false

set_option maxHeartbeats 2000000 in
set_option maxRecDepth 100000 in
theorem refRightV_any (A : Option Addr) (n c : Nat) (l : List Vr) (w : World) (hv : SlV w A n l) (hn : n ≤ 140737488351232) :
    Calls Try.prog 55 #[.slice A n c] w fun e w' => e = .returned (.bool (rightV l)) ∧ Below w.heap.size w w' := by
  have hll := hv.len
  by_cases hlong : 512 < n
  · have HF := Lib.hid (rightV_long (l := l) (by omega))
    go_enter Try.func55, Try.ntmps55
    go_wp2
    go_ret
    exact ⟨retb HF.out, Below.refl _ _⟩
  go_enter Try.func55, Try.ntmps55
  go_wp2
  go_loopw [3] (fun i wr => ∃ (k : Nat), i = .int .i64 (k : Int) ∧ k ≤ n ∧ Hid (VInv l k) ∧ Below w.heap.size w wr) (fun i _ => n - (intOf i).toNat)
  case atStart => exact ⟨0, rfl, Nat.zero_le _, VInv.start l, Below.refl _ _⟩
  case round =>
    obtain ⟨k, rfl, hk, Hok, hbel⟩ := hrel
    have hsz := hbel.size
    by_cases hlt : k < n
    · have hvr := hv.below hbel
      obtain ⟨b, off, v, Ap, np, cp, rfl, hx, hr, hc0, hc1, hc2, hc3, hc4⟩ := hvr.at_ hlt
      have Hx := Lib.hid hx
      have c1 := refOne_any v Ap np cp wr hr
      have HVR := Lib.hid hvr
      have CC := Lib.hid (And.intro hc0 hc1)
      have j0 : (0 : Int) ≤ (k : Int) := by omega
      have j1 : (k : Int) < (n : Int) := by omega
      clear hx hr hvr
      cases ho : okVB v
      · rw [ho] at c1
        have C1 := Lib.hid c1
        have HF := Lib.hid (VInv.no Hx.out (.inl ho))
        clear c1 ho
        go_wp2_with fail
        refine C1.out.mono ?_
        rintro e w1 ⟨rfl, b1⟩
        have B1 := Lib.hid (hbel.trans (b1.mono hsz))
        clear b1 C1 hc0 hc1 hc2 hc3 hc4
        go_wp2
        go_ret
        exact ⟨retb HF.out, B1.out⟩
      · rw [ho] at c1
        have C1 := Lib.hid c1
        have HO := Lib.hid ho
        clear c1 ho
        cases hb : behB l v.s v.n
        · have HB := Lib.hid hb
          go_wp2_with fail
          refine C1.out.mono ?_
          rintro e w1 ⟨rfl, b1⟩
          have B1 := Lib.hid (hbel.trans (b1.mono hsz))
          have D0 := (b1.cell (World.block_lt_of_cell? _ _ CC.out.1)).trans CC.out.1
          have D1 := (b1.cell (World.block_lt_of_cell? _ _ CC.out.2)).trans CC.out.2
          have c2 := refBehind_any (some ⟨b, off, none⟩) n c l v.s v.n w1 (HVR.out.below b1) hn
          rw [hb] at c2
          have C2 := Lib.hid c2
          clear c2 hc0 hc1 hc2 hc3 hc4 hb
          go_wp2_with fail
          refine C2.out.mono ?_
          rintro e w2 ⟨rfl, b2⟩
          have B2 := Lib.hid (B1.out.trans (b2.mono B1.out.size))
          have hE := Lib.hid (b1.trans (b2.mono b1.size))
          clear b1 b2 C1 C2 D0 D1
          have hvr := HVR.out.below hE.out
          have hsz2 := B2.out.size
          have G0 := Ext.cell ((hE.out.cell (World.block_lt_of_cell? _ _ CC.out.1)).trans CC.out.1)
          have G1 := Ext.cell ((hE.out.cell (World.block_lt_of_cell? _ _ CC.out.2)).trans CC.out.2)
          rcases Nat.eq_zero_or_pos k with hk0 | hk0
          · have v0 : decide (0 < k) = false := decide_eq_false (by omega)
            have HS := Lib.hid (Hok.out.step Hx.out HO.out HB.out (.inl hk0))
            have G2 := G0
            have G3 := G0
            have C3 := HS
            clear hk0 hvr
            go_wp2_with fail
            refine wp_region_ext (by kernel_rfl) (by kernel_rfl) ?_
            repeat (go_big_quiet_step ((go_at_call 66; exact Calls.ext_of (C3.out _))))
            refine wpQuiet_nil ?_
            intro w3 hw3
            have B3 := Lib.hid (B2.out.trans ((ext_end hw3).mono B2.out.size))
            clear hw3 G0 G1 G2 G3
            go_wp2
            go_roundw
            case rel => exact ⟨k + 1, by go_num, by omega, HS.out, B3.out⟩
            case measure => simp [intOf]; omega
          · have v0 : decide (0 < k) = true := decide_eq_true hk0
            obtain ⟨b', off', y, Ay, ny, cy, e', hy, hry, hd0, hd1, hd2, hd3, hd4⟩ := hvr.at_ (k := k - 1) (by omega)
            injection e' with e'
            injection e' with e1 e2
            subst e1 e2
            have G2 := Ext.cell hd0
            have G3 := Ext.cell hd1
            have Hy := Lib.hid hy
            have k0 : (0 : Int) ≤ (k : Int) - 1 := by omega
            have c3 := fun x : Ext w2 => refLess_any y.s y.n v.s v.n x.w
            clear hy hry hd0 hd1 hd2 hd3 hd4 hvr
            cases hd : dltB y.s y.n v.s v.n
            · simp only [hd] at c3
              have C3 := Lib.hid c3
              have HF := Lib.hid (VInv.no Hx.out (.inr (.inr ⟨hk0, _, Hy.out, hd⟩)))
              clear c3 hd
              go_wp2_with fail
              refine wp_region_ext (by kernel_rfl) (by kernel_rfl) ?_
              repeat (go_big_quiet_step ((go_at_call 66; exact Calls.ext_of (C3.out _))))
              refine wpQuiet_nil ?_
              intro w3 hw3
              have B3 := Lib.hid (B2.out.trans ((ext_end hw3).mono B2.out.size))
              clear hw3 G0 G1 G2 G3
              go_wp2
              go_ret
              exact ⟨retb HF.out, B3.out⟩
            · simp only [hd] at c3
              have C3 := Lib.hid c3
              have HS := Lib.hid (Hok.out.step Hx.out HO.out HB.out (.inr ⟨_, Hy.out, hd⟩))
              clear c3 hd
              go_wp2_with fail
              refine wp_region_ext (by kernel_rfl) (by kernel_rfl) ?_
              repeat (go_big_quiet_step ((go_at_call 66; exact Calls.ext_of (C3.out _))))
              refine wpQuiet_nil ?_
              intro w3 hw3
              have B3 := Lib.hid (B2.out.trans ((ext_end hw3).mono B2.out.size))
              clear hw3 G0 G1 G2 G3
              go_wp2
              go_roundw
              case rel => exact ⟨k + 1, by go_num, by omega, HS.out, B3.out⟩
              case measure => simp [intOf]; omega
        · have HF := Lib.hid (VInv.no Hx.out (.inr (.inl hb)))
          go_wp2_with fail
          refine C1.out.mono ?_
          rintro e w1 ⟨rfl, b1⟩
          have B1 := Lib.hid (hbel.trans (b1.mono hsz))
          have D0 := (b1.cell (World.block_lt_of_cell? _ _ CC.out.1)).trans CC.out.1
          have D1 := (b1.cell (World.block_lt_of_cell? _ _ CC.out.2)).trans CC.out.2
          have c2 := refBehind_any (some ⟨b, off, none⟩) n c l v.s v.n w1 (HVR.out.below b1) hn
          rw [hb] at c2
          have C2 := Lib.hid c2
          clear c2 hc0 hc1 hc2 hc3 hc4 hb
          go_wp2_with fail
          refine C2.out.mono ?_
          rintro e w2 ⟨rfl, b2⟩
          have B2 := Lib.hid (B1.out.trans (b2.mono B1.out.size))
          have hE := Lib.hid (b1.trans (b2.mono b1.size))
          clear b1 b2 C1 C2 D0 D1
          go_wp2
          go_ret
          exact ⟨retb HF.out, B2.out⟩
    · obtain rfl : k = n := by omega
      go_wp2
      go_ret
      exact ⟨retb (by rw [Hok.out.all hll]; simp; omega), hbel⟩
end Go.Proofs.Ytilagblpamhmkaa
