/-
  Is a version, is a set of versions right? The program's answers and the document's.
-/
import Derived.Test.YtilagblpamhmkaaME
namespace Go.Proofs.Ytilagblpamhmkaa
open Go.RowKit
set_option linter.unusedVariables false

set_option maxHeartbeats 2000000 in
set_option maxRecDepth 100000 in
theorem refOne_any (v : Vr) (A : Option Addr) (n c : Nat) (w : World) (hv : VRow w v A n c) :
    Calls Try.prog 64 #[.agg #[.int .i64 v.s, .int .i64 v.n, .slice A n c, .bool v.gone, .string v.val]] w fun e w' => e = .returned (.bool (okVB v)) ∧ Below w.heap.size w w' := by
  have hn9 := hv.n9
  have hS := OneC.start w v A n c hv.sl
  have G0 := Ext.cell hS.1.c0
  have G1 := Ext.cell hS.1.c1
  have G2 := Ext.cell hS.1.c2
  have G3 := Ext.cell hS.1.c3
  have G4 := Ext.cell hS.1.c4
  have G := Lib.hid (And.intro hS.1.c3 hS.1.c4)
  have HW := Lib.hid hS.2.2
  have c2 := fun x : Ext (w.alloc (.cells #[.int .i64 v.s, .int .i64 v.n, .slice A n c, .bool v.gone, .string v.val] 42)) => refRightS_any A n c v.past x.w (Sl.below hS.2.1 x.below) hn9
  have c3 := fun x : Ext (w.alloc (.cells #[.int .i64 v.s, .int .i64 v.n, .slice A n c, .bool v.gone, .string v.val] 42)) => refTop_any A n c v.past v.s x.w (Sl.below hS.2.1 x.below) hn9
  have c1 := fun x : Ext (w.alloc (.cells #[.int .i64 v.s, .int .i64 v.n, .slice A n c, .bool v.gone, .string v.val] 42)) => refDot_any v.s v.n x.w
  clear hS hv
  obtain ⟨s, m, past, gone, val⟩ := v
  simp only at *
  have hok : okVB ⟨s, m, past, gone, val⟩ = (dotB s m && (rightS past && ((!decide (topS past s ≥ m)) && (decide ((val.size : Int) ≤ 256) && (!gone || decide (val.size = 0)))))) := by
    unfold okVB
    rw [show decide ((val.size : Int) ≤ 256) = decide (val.size ≤ 256) from decide_eq_decide.2 (by omega), show (!decide (topS past s ≥ m)) = decide (topS past s < m) from by rw [← decide_not]; exact decide_eq_decide.2 (by omega)]
  obtain ⟨tp, htp⟩ : ∃ tp, topS past s = tp := ⟨_, rfl⟩
  obtain ⟨d, hd⟩ : ∃ d, dotB s m = d := ⟨_, rfl⟩
  obtain ⟨r, hr⟩ : ∃ r, rightS past = r := ⟨_, rfl⟩
  obtain ⟨t, ht⟩ : ∃ t, decide (tp ≥ m) = t := ⟨_, rfl⟩
  obtain ⟨z, hz⟩ : ∃ z, decide ((val.size : Int) ≤ 256) = z := ⟨_, rfl⟩
  obtain ⟨em, he⟩ : ∃ em, decide (val.size = 0) = em := ⟨_, rfl⟩
  simp only [hd, hr, htp] at c1 c2 c3
  rw [hd, hr, htp, ht, hz, he] at hok
  have C1 := Lib.hid c1
  have C2 := Lib.hid c2
  have C3 := Lib.hid c3
  cases d
  · have HOK := Lib.hid hok
    clear c1 c2 c3 hok hd hr htp ht hz he
    go_enter Try.func64, Try.ntmps64
    go_wp2_with fail
    refine wp_region_ext (by kernel_rfl) (by kernel_rfl) ?_
    repeat (go_big_quiet_step (first | (go_at_call 78; exact Calls.ext_of (C1.out _)) | (go_at_call 79; exact Calls.ext_of (C2.out _)) | (go_at_call 80; exact Calls.ext_same (C3.out _))))
    refine wpQuiet_nil ?_
    intro w1 hw1
    have b1 := ext_end hw1
    have HF := Lib.hid (HW.out.trans (b1.mono HW.out.size))
    have g3 := (b1.cell (World.block_lt_of_cell? _ _ G.out.1)).trans G.out.1
    have g4 := (b1.cell (World.block_lt_of_cell? _ _ G.out.2)).trans G.out.2
    clear hw1 b1 G0 G1 G2 G3 G4
    go_wp2
    go_ret
    exact ⟨retb HOK.out, HF.out⟩
  · cases r
    · have HOK := Lib.hid hok
      clear c1 c2 c3 hok hd hr htp ht hz he
      go_enter Try.func64, Try.ntmps64
      go_wp2_with fail
      refine wp_region_ext (by kernel_rfl) (by kernel_rfl) ?_
      repeat (go_big_quiet_step (first | (go_at_call 78; exact Calls.ext_of (C1.out _)) | (go_at_call 79; exact Calls.ext_of (C2.out _)) | (go_at_call 80; exact Calls.ext_same (C3.out _))))
      refine wpQuiet_nil ?_
      intro w1 hw1
      have b1 := ext_end hw1
      have HF := Lib.hid (HW.out.trans (b1.mono HW.out.size))
      have g3 := (b1.cell (World.block_lt_of_cell? _ _ G.out.1)).trans G.out.1
      have g4 := (b1.cell (World.block_lt_of_cell? _ _ G.out.2)).trans G.out.2
      clear hw1 b1 G0 G1 G2 G3 G4
      go_wp2
      go_ret
      exact ⟨retb HOK.out, HF.out⟩
    · cases t
      · cases gone
        · rw [show (true && (true && (!false && (z && (!false || em))))) = z by cases z <;> rfl, ← hz] at hok
          have HOK := Lib.hid hok
          clear c1 c2 c3 hok hd hr htp hz he
          go_enter Try.func64, Try.ntmps64
          go_wp2_with fail
          refine wp_region_ext (by kernel_rfl) (by kernel_rfl) ?_
          repeat (go_big_quiet_step (first | (go_at_call 78; exact Calls.ext_of (C1.out _)) | (go_at_call 79; exact Calls.ext_of (C2.out _)) | (go_at_call 80; exact Calls.ext_same (C3.out _))))
          refine wpQuiet_nil ?_
          intro w1 hw1
          have b1 := ext_end hw1
          have HF := Lib.hid (HW.out.trans (b1.mono HW.out.size))
          have g3 := (b1.cell (World.block_lt_of_cell? _ _ G.out.1)).trans G.out.1
          have g4 := (b1.cell (World.block_lt_of_cell? _ _ G.out.2)).trans G.out.2
          clear hw1 b1 G0 G1 G2 G3 G4
          go_wp2
          go_ret
          exact ⟨retb HOK.out, HF.out⟩
        · cases em
          · obtain ⟨v1, v2⟩ := val_some (of_decide_eq_false he)
            rw [show (true && (true && (!false && (z && (!true || false))))) = false by cases z <;> rfl] at hok
            have HOK := Lib.hid hok
            clear c1 c2 c3 hok hd hr htp hz he
            go_enter Try.func64, Try.ntmps64
            go_wp2_with fail
            refine wp_region_ext (by kernel_rfl) (by kernel_rfl) ?_
            repeat (go_big_quiet_step (first | (go_at_call 78; exact Calls.ext_of (C1.out _)) | (go_at_call 79; exact Calls.ext_of (C2.out _)) | (go_at_call 80; exact Calls.ext_same (C3.out _))))
            refine wpQuiet_nil ?_
            intro w1 hw1
            have b1 := ext_end hw1
            have HF := Lib.hid (HW.out.trans (b1.mono HW.out.size))
            have g3 := (b1.cell (World.block_lt_of_cell? _ _ G.out.1)).trans G.out.1
            have g4 := (b1.cell (World.block_lt_of_cell? _ _ G.out.2)).trans G.out.2
            clear hw1 b1 G0 G1 G2 G3 G4
            go_wp2
            go_ret
            exact ⟨retb HOK.out, HF.out⟩
          · rw [show z = true from by rw [← hz]; exact decide_eq_true (by have := of_decide_eq_true he; omega)] at hok
            clear hz
            obtain rfl := val_empty (of_decide_eq_true he)
            have HOK := Lib.hid hok
            clear c1 c2 c3 hok hd hr htp he
            go_enter Try.func64, Try.ntmps64
            go_wp2_with fail
            refine wp_region_ext (by kernel_rfl) (by kernel_rfl) ?_
            repeat (go_big_quiet_step (first | (go_at_call 78; exact Calls.ext_of (C1.out _)) | (go_at_call 79; exact Calls.ext_of (C2.out _)) | (go_at_call 80; exact Calls.ext_same (C3.out _))))
            refine wpQuiet_nil ?_
            intro w1 hw1
            have b1 := ext_end hw1
            have HF := Lib.hid (HW.out.trans (b1.mono HW.out.size))
            have g3 := (b1.cell (World.block_lt_of_cell? _ _ G.out.1)).trans G.out.1
            have g4 := (b1.cell (World.block_lt_of_cell? _ _ G.out.2)).trans G.out.2
            clear hw1 b1 G0 G1 G2 G3 G4
            go_wp2
            go_ret
            exact ⟨retb HOK.out, HF.out⟩
      · have HOK := Lib.hid hok
        clear c1 c2 c3 hok hd hr htp hz he
        go_enter Try.func64, Try.ntmps64
        go_wp2_with fail
        refine wp_region_ext (by kernel_rfl) (by kernel_rfl) ?_
        repeat (go_big_quiet_step (first | (go_at_call 78; exact Calls.ext_of (C1.out _)) | (go_at_call 79; exact Calls.ext_of (C2.out _)) | (go_at_call 80; exact Calls.ext_same (C3.out _))))
        refine wpQuiet_nil ?_
        intro w1 hw1
        have b1 := ext_end hw1
        have HF := Lib.hid (HW.out.trans (b1.mono HW.out.size))
        have g3 := (b1.cell (World.block_lt_of_cell? _ _ G.out.1)).trans G.out.1
        have g4 := (b1.cell (World.block_lt_of_cell? _ _ G.out.2)).trans G.out.2
        clear hw1 b1 G0 G1 G2 G3 G4
        go_wp2
        go_ret
        exact ⟨retb HOK.out, HF.out⟩

set_option maxHeartbeats 2000000 in
set_option maxRecDepth 100000 in
theorem verRight_any (A : Option Addr) (n c : Nat) (l : List Vr) (w : World) (hv : SlV w A n l) (hn : n ≤ 140737488351232) :
    Calls Try.prog 48 #[.slice A n c] w fun e w' => e = .returned (.bool (rightV l)) ∧ Below w.heap.size w w' := by
  have hll := hv.len
  go_enter Try.func48, Try.ntmps48
  go_wp2
  go_loopw [7] (fun i wr => ∃ (k : Nat), i = .int .i64 (k : Int) ∧ k ≤ n ∧ Hid (VInv l k) ∧ Below w.heap.size w wr) (fun i _ => n - (intOf i).toNat)
  case atStart => exact ⟨0, rfl, Nat.zero_le _, VInv.start l, Below.refl _ _⟩
  case round =>
    obtain ⟨k, rfl, hk, Hok, hbel⟩ := hrel
    have hsz := hbel.size
    by_cases hlt : k < n
    · have hvr := hv.below hbel
      obtain ⟨b, off, v, Ap, np, cp, rfl, hx, hr, hc0, hc1, hc2, hc3, hc4⟩ := hvr.at_ hlt
      have Hx := Lib.hid hx
      have hS := OneC.start wr v Ap np cp hr.sl
      have HW := Lib.hid (hbel.trans (hS.2.2.mono hsz))
      have G0 := Ext.cell hS.1.c0
      have G1 := Ext.cell hS.1.c1
      have G2 := Ext.cell hS.1.c2
      have G3 := Ext.cell hS.1.c3
      have G4 := Ext.cell hS.1.c4
      have hX := hS.2.2
      have hVX := hvr.below hX
      have c1 := fun x : Ext (wr.alloc (.cells #[.int .i64 v.s, .int .i64 v.n, .slice Ap np cp, .bool v.gone, .string v.val] 42)) => verOne_any v Ap np cp x.w ((hr.below hX).below x.below)
      have c3 := fun x : Ext (wr.alloc (.cells #[.int .i64 v.s, .int .i64 v.n, .slice Ap np cp, .bool v.gone, .string v.val] 42)) => verBehind_any _ n c l v.s v.n x.w (hVX.ext x) hn
      have j0 : (0 : Int) ≤ (k : Int) := by omega
      have j1 : (k : Int) < (n : Int) := by omega
      have HVX := Lib.hid hVX
      clear hx hr hS hX hVX
      cases ho : okVB v
      · simp only [ho] at c1
        have C1 := Lib.hid c1
        have HF := Lib.hid (VInv.no Hx.out (.inl ho))
        clear c1 c3 ho
        have C2 := C1
        have C3 := C1
        go_wp2_with fail
        refine wp_region_ext (by kernel_rfl) (by kernel_rfl) ?_
        repeat (go_big_quiet_step (first | (go_at_call 57; exact Calls.ext_of (C1.out _)) | (go_at_call 58; exact Calls.ext_of (C2.out _)) | (go_at_call 59; exact Calls.ext_of (C3.out _))))
        refine wpQuiet_nil ?_
        intro w1 hw1
        have B1 := Lib.hid (HW.out.trans ((ext_end hw1).mono HW.out.size))
        clear hw1 G0 G1 G2 G3 G4
        go_wp2
        go_ret
        exact ⟨retb HF.out, B1.out⟩
      · simp only [ho] at c1
        have C1 := Lib.hid c1
        have HO := Lib.hid ho
        clear c1 ho
        rcases Nat.eq_zero_or_pos k with hk0 | hk0
        · have v0 : decide (0 < k) = false := decide_eq_false (by omega)
          have HK0 := Lib.hid hk0
          clear hk0
          cases hb : behB l v.s v.n
          · simp only [hb] at c3
            have C3 := Lib.hid c3
            have HS := Lib.hid (Hok.out.step Hx.out HO.out hb (.inl HK0.out))
            clear c3 hb
            have C2 := C1
            go_wp2_with fail
            refine wp_region_ext (by kernel_rfl) (by kernel_rfl) ?_
            repeat (go_big_quiet_step (first | (go_at_call 57; exact Calls.ext_of (C1.out _)) | (go_at_call 58; exact Calls.ext_of (C2.out _)) | (go_at_call 59; exact Calls.ext_of (C3.out _))))
            refine wpQuiet_nil ?_
            intro w1 hw1
            have B1 := Lib.hid (HW.out.trans ((ext_end hw1).mono HW.out.size))
            clear hw1 G0 G1 G2 G3 G4
            go_wp2
            go_roundw
            case rel => exact ⟨k + 1, by go_num, by omega, HS.out, B1.out⟩
            case measure => simp [intOf]; omega
          · simp only [hb] at c3
            have C3 := Lib.hid c3
            have HF := Lib.hid (VInv.no Hx.out (.inr (.inl hb)))
            clear c3 hb
            have C2 := C1
            go_wp2_with fail
            refine wp_region_ext (by kernel_rfl) (by kernel_rfl) ?_
            repeat (go_big_quiet_step (first | (go_at_call 57; exact Calls.ext_of (C1.out _)) | (go_at_call 58; exact Calls.ext_of (C2.out _)) | (go_at_call 59; exact Calls.ext_of (C3.out _))))
            refine wpQuiet_nil ?_
            intro w1 hw1
            have B1 := Lib.hid (HW.out.trans ((ext_end hw1).mono HW.out.size))
            clear hw1 G0 G1 G2 G3 G4
            go_wp2
            go_ret
            exact ⟨retb HF.out, B1.out⟩
        · have v0 : decide (0 < k) = true := decide_eq_true hk0
          obtain ⟨b', off', y, Ay, ny, cy, e', hy, hry, hd0, hd1, hd2, hd3, hd4⟩ := HVX.out.at_ (k := k - 1) (by omega)
          injection e' with e'
          injection e' with e1 e2
          subst e1 e2
          have G5 := Ext.cell hd0
          have G6 := Ext.cell hd1
          have Hy := Lib.hid hy
          have k0 : (0 : Int) ≤ (k : Int) - 1 := by omega
          have c2 := fun x : Ext (wr.alloc (.cells #[.int .i64 v.s, .int .i64 v.n, .slice Ap np cp, .bool v.gone, .string v.val] 42)) => verBefore_any y.s y.n v.s v.n x.w
          clear hy hry hd0 hd1 hd2 hd3 hd4
          cases hd : dltB y.s y.n v.s v.n
          · simp only [hd] at c2
            have C2 := Lib.hid c2
            have HF := Lib.hid (VInv.no Hx.out (.inr (.inr ⟨hk0, _, Hy.out, hd⟩)))
            clear c2 c3 hd
            have C3 := C1
            go_wp2_with fail
            refine wp_region_ext (by kernel_rfl) (by kernel_rfl) ?_
            repeat (go_big_quiet_step (first | (go_at_call 57; exact Calls.ext_of (C1.out _)) | (go_at_call 58; exact Calls.ext_of (C2.out _)) | (go_at_call 59; exact Calls.ext_of (C3.out _))))
            refine wpQuiet_nil ?_
            intro w1 hw1
            have B1 := Lib.hid (HW.out.trans ((ext_end hw1).mono HW.out.size))
            clear hw1 G0 G1 G2 G3 G4
            go_wp2
            go_ret
            exact ⟨retb HF.out, B1.out⟩
          · simp only [hd] at c2
            have C2 := Lib.hid c2
            have HD := Lib.hid hd
            clear c2 hd
            cases hb : behB l v.s v.n
            · simp only [hb] at c3
              have C3 := Lib.hid c3
              have HS := Lib.hid (Hok.out.step Hx.out HO.out hb (.inr ⟨_, Hy.out, HD.out⟩))
              clear c3 hb
              go_wp2_with fail
              refine wp_region_ext (by kernel_rfl) (by kernel_rfl) ?_
              repeat (go_big_quiet_step (first | (go_at_call 57; exact Calls.ext_of (C1.out _)) | (go_at_call 58; exact Calls.ext_of (C2.out _)) | (go_at_call 59; exact Calls.ext_of (C3.out _))))
              refine wpQuiet_nil ?_
              intro w1 hw1
              have B1 := Lib.hid (HW.out.trans ((ext_end hw1).mono HW.out.size))
              clear hw1 G0 G1 G2 G3 G4
              go_wp2
              go_roundw
              case rel => exact ⟨k + 1, by go_num, by omega, HS.out, B1.out⟩
              case measure => simp [intOf]; omega
            · simp only [hb] at c3
              have C3 := Lib.hid c3
              have HF := Lib.hid (VInv.no Hx.out (.inr (.inl hb)))
              clear c3 hb
              go_wp2_with fail
              refine wp_region_ext (by kernel_rfl) (by kernel_rfl) ?_
              repeat (go_big_quiet_step (first | (go_at_call 57; exact Calls.ext_of (C1.out _)) | (go_at_call 58; exact Calls.ext_of (C2.out _)) | (go_at_call 59; exact Calls.ext_of (C3.out _))))
              refine wpQuiet_nil ?_
              intro w1 hw1
              have B1 := Lib.hid (HW.out.trans ((ext_end hw1).mono HW.out.size))
              clear hw1 G0 G1 G2 G3 G4
              go_wp2
              go_ret
              exact ⟨retb HF.out, B1.out⟩
    · obtain rfl : k = n := by omega
      go_wp2
      go_ret
      exact ⟨retb (by rw [Hok.out.all hll, decide_eq_decide]; omega), hbel⟩
end Go.Proofs.Ytilagblpamhmkaa
