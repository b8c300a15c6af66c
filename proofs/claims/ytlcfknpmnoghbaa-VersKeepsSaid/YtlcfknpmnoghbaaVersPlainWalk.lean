/-
  firthlaw05.plain: are these sets such as writes make them?
-/
import Derived.Test.YtlcfknpmnoghbaaVersMergesPlain
import Derived.Test.YtlcfknpmnoghbaaAppendWide
namespace Go.Proofs.Ytlcfknpmnoghbaa
open Go.RowKit
set_option linter.unusedVariables false

def PlTo (L : List Vr) (i : Nat) : Prop := ∀ j x, j < i → L[j]? = some x → ∀ y ∈ L, okPair x y
def PlRow (x : Vr) (L : List Vr) (k : Nat) : Prop := ∀ y ∈ L.take k, okPair x y
theorem PlRow.step {x y : Vr} {L : List Vr} {k : Nat} (h : PlRow x L k) (hy : L[k]? = some y) (hn : okPair x y) : PlRow x L (k + 1) := fun z hz => by
  rcases mem_take_succ hy hz with h1 | rfl
  · exact h z h1
  · exact hn
theorem PlTo.step {L : List Vr} {i k : Nat} {x : Vr} (h : PlTo L i) (hx : L[i]? = some x) (hr : PlRow x L k) (hk : L.length ≤ k) : PlTo L (i + 1) := fun j z hj hz => by
  rcases Nat.lt_or_ge j i with h1 | h1
  · exact h j z h1 hz
  · obtain rfl : j = i := by omega
    rw [hx] at hz
    obtain rfl := Option.some.inj hz
    intro y hy
    exact hr y (by rw [List.take_of_length_le hk]; exact hy)
theorem PlTo.all {L : List Vr} {i : Nat} (h : PlTo L i) (hi : L.length ≤ i) : PlainP L := fun x hx y hy => by
  obtain ⟨j, hj, rfl⟩ := List.getElem_of_mem hx
  exact h j _ (by omega) (List.getElem?_eq_getElem hj) y hy
/-- What plain answers. -/
def PlainE (w : World) (L : List Vr) (e : Ending) (w' : World) : Prop := ∃ p, e = .returned (.bool p) ∧ (p = true → PlainP L) ∧ Below w.heap.size w w'
theorem flat_append (a b : List RV) : (a ++ b).flatMap vV1 = a.flatMap vV1 ++ b.flatMap vV1 := List.flatMap_append
set_option maxHeartbeats 16000000 in
set_option maxRecDepth 100000 in
theorem plain_any (a0 a1 a2 : Option Addr) (n0 c0 n1 c1 n2 c2 : Nat) (la lb lc : List Vr) (w : World) (s0 : SlV w a0 n0 la) (s1 : SlV w a1 n1 lb) (s2 : SlV w a2 n2 lc) (h0 : n0 ≤ 512) (h1 : n1 ≤ 512) (h2 : n2 * 64 ≤ 140737488351232) :
    Calls Try.prog 22 #[.slice a0 n0 c0, .slice a1 n1 c1, .slice a2 n2 c2] w (PlainE w (la ++ lb ++ lc)) := by
  obtain ⟨i0, hi, hz0, hz1, hz2⟩ := info_parts Try.infoVer
  obtain ⟨ra, ea, sa, va⟩ := s0
  obtain ⟨rb, eb, sb, vb⟩ := s1
  obtain ⟨rc, ec, sc, vc⟩ := s2
  have SA := Lib.hid sa
  have SB := Lib.hid sb
  have SC := Lib.hid sc
  have VR := Lib.hid (show ∀ y ∈ ra ++ rb ++ rc, VRow w y.1 y.2.1 y.2.2.1 y.2.2.2 from fun y hy => by
    rcases List.mem_append.1 hy with hy | hy
    · rcases List.mem_append.1 hy with hy | hy
      · exact va y hy
      · exact vb y hy
    · exact vc y hy)
  have EL := Lib.hid (show (ra ++ rb ++ rc).map (·.1) = la ++ lb ++ lc from by rw [List.map_append, List.map_append, ea, eb, ec])
  clear sa sb sc va vb vc ea eb ec
  go_enter Try.func22, Try.ntmps22
  go_wp2_with (first | (at_builtin; refine wpList_append_slw _ rfl (.tmp 10) (.tmp 11) 22 rfl (w.heap.size) 28 i0 (.agg #[.int .i64 0, .int .i64 0, .slice none 0 0, .bool false, .string ⟨#[]⟩]) 5 64 Try.underlying22 hi hz0 hz1 hz2 rfl (by decide) (.slice none 0 0) (0) ([]) rfl (World.ownsRow_nil _ _ _ _) (a0) (n0) (c0) (ra.flatMap vV1) rfl (SA.out) (flat_one _) (by unfold maxLen; omega) (by omega) (Nat.le_refl _) ?_) | fail)
  intro v1 w1 own1 g1
  have B1 := Lib.hid (show Below w.heap.size w w1 from (Below.refl _ _).grown g1 (Nat.le_refl _) (fun q hq => by simp [Value.ownBlock] at hq))
  obtain ⟨A1, k1, rfl, hk1, _⟩ := own_slice own1
  have HO1 := Lib.hid own1
  have hs1 := B1.out.size
  clear g1 own1
  go_wp2_with (first | (at_builtin; refine wpList_append_slw _ rfl (.tmp 13) (.tmp 14) 22 rfl (w.heap.size) 28 i0 (.agg #[.int .i64 0, .int .i64 0, .slice none 0 0, .bool false, .string ⟨#[]⟩]) 5 64 Try.underlying22 hi hz0 hz1 hz2 rfl (by decide) (_) (n0) (ra.flatMap vV1) rfl (HO1.out) (a1) (n1) (c1) (rb.flatMap vV1) rfl (Sl.below SB.out B1.out) (flat_one _) (by unfold maxLen; omega) (by omega) (hs1) ?_) | fail)
  intro v2 w2 own2 g2
  have B2 := Lib.hid (B1.out.grown g2 hs1 (fun q hq => (HO1.out.lt q hq).1))
  obtain ⟨A2, k2, rfl, hk2, _⟩ := own_slice own2
  have HO2 := Lib.hid own2
  have hs2 := B2.out.size
  clear g2 own2
  go_wp2_with (first | (at_builtin; refine wpList_append_slw _ rfl (.tmp 16) (.tmp 17) 22 rfl (w.heap.size) 28 i0 (.agg #[.int .i64 0, .int .i64 0, .slice none 0 0, .bool false, .string ⟨#[]⟩]) 5 64 Try.underlying22 hi hz0 hz1 hz2 rfl (by decide) (_) (n0 + n1) (ra.flatMap vV1 ++ rb.flatMap vV1) rfl (HO2.out) (a2) (n2) (c2) (rc.flatMap vV1) rfl (Sl.below SC.out B2.out) (flat_one _) (by unfold maxLen; omega) (by omega) (hs2) ?_) | fail)
  intro v3 w3 own3 g3
  have B3 := Lib.hid (B2.out.grown g3 hs2 (fun q hq => (HO2.out.lt q hq).1))
  obtain ⟨A3, k3, rfl, hk3, _⟩ := own_slice own3
  obtain ⟨N, hN⟩ : ∃ N, N = n0 + n1 + n2 := ⟨_, rfl⟩
  rw [← hN] at own3 hk3 ⊢
  have hNb : N ≤ 140737488351232 := by omega
  have HV := Lib.hid (show SlV w3 A3 N (la ++ lb ++ lc) from ⟨ra ++ rb ++ rc, EL.out, by
    have := Sl.of_own own3
    simpa [flat_append] using this, fun y hy => (VR.out y hy).below B3.out⟩)
  generalize la ++ lb ++ lc = L at *
  have hL := HV.out.len
  have BB := B3
  clear g3 own3 HO1 HO2 SA SB SC VR EL B1 B2 B3 hs1 hs2 hN hk1 hk2 h0 h1 h2
  go_wp2
  go_loopw [8] (fun t wr => ∃ (i : Nat), t = .int .i64 (i : Int) ∧ i ≤ N ∧ Hid (PlTo L i) ∧ Hid (Below w3.heap.size w3 wr)) (fun t _ => N - (intOf t).toNat)
  case atStart => exact ⟨0, rfl, Nat.zero_le _, fun j x h => absurd h (by omega), Below.refl _ _⟩
  case round =>
    obtain ⟨i, rfl, hi', HT, hbel⟩ := hrel
    by_cases hlt : i < N
    · have j0 : (0 : Int) ≤ (i : Int) := by omega
      have j1 : (i : Int) < (N : Int) := by omega
      obtain ⟨b1, off1, x, Ap1, np1, cp1, e1, hx, -, -, -, -, -, -⟩ := HV.out.at_ hlt
      subst e1
      have HX := Lib.hid hx
      clear hx
      go_wp2
      go_loopw [9] (fun t wr2 => ∃ (k : Nat), t = .int .i64 (k : Int) ∧ k ≤ N ∧ Hid (PlRow x L k) ∧ Hid (Below w3.heap.size w3 wr2)) (fun t _ => N - (intOf t).toNat)
      case atStart => exact ⟨0, rfl, Nat.zero_le _, (fun y h => by simp at h), hbel⟩
      case round =>
        obtain ⟨k, rfl, hk, HR, hbel2⟩ := hrel
        by_cases hlt2 : k < N
        · have j2 : (0 : Int) ≤ (k : Int) := by omega
          have j3 : (k : Int) < (N : Int) := by omega
          obtain ⟨b', off', x', Ax, nx, cx, e', hx', hrx, hc0, hc1, hc2, hc3, hc4⟩ := (HV.out.below hbel2.out).at_ hlt
          injection e' with e'
          injection e' with e1 e2
          subst e1 e2
          rw [HX.out] at hx'
          obtain rfl := Option.some.inj hx'
          obtain ⟨b', off', y, Ay, ny, cy, e', hy, hry, hd0, hd1, hd2, hd3, hd4⟩ := (HV.out.below hbel2.out).at_ hlt2
          injection e' with e'
          injection e' with e1 e2
          subst e1 e2
          have HY := Lib.hid hy
          have HRX := Lib.hid hrx
          have HRY := Lib.hid hry
          have X0 := Ext.cell hc0
          have X1 := Ext.cell hc1
          have X2 := Ext.cell hc2
          have X3 := X2
          have X4 := X2
          have Y0 := Ext.cell hd0
          have Y1 := Ext.cell hd1
          have Y2 := Ext.cell hd2
          have Y3 := Y2
          have Y4 := Y2
          have KX := Lib.hid (And.intro hc0 (And.intro hc1 (And.intro hc2 (And.intro hc3 hc4))))
          have KY := Lib.hid (And.intro hd0 (And.intro hd1 (And.intro hd2 (And.intro hd3 hd4))))
          have ch := fun z : Ext _ => refHas_any Ax nx cx x.past y.s y.n z.w (Sl.below hrx.sl z.below) hrx.n9
          have ck := fun z : Ext _ => refHas_any Ay ny cy y.past x.s x.n z.w (Sl.below hry.sl z.below) hry.n9
          have cw := fun z : Ext _ => refWithin_any Ay Ax ny nx cy cx y.past x.past z.w (Sl.below hry.sl z.below) (Sl.below hrx.sl z.below) hry.n9 hrx.n9
          clear hx' hrx hy hry hc0 hc1 hc2 hc3 hc4 hd0 hd1 hd2 hd3 hd4
          cases h1 : hasB x.past y.s y.n
          · simp only [h1] at ch
            have CH := Lib.hid ch
            have HP1 := Lib.hid (show hasB x.past y.s y.n = true → (∀ s n, has y.past s n → has x.past s n) ∧ hasB y.past x.s x.n = false from fun h => by rw [h1] at h; cases h)
            have CW := CH
            have CK := CH
            clear ch cw ck h1
            go_wp2_with fail
            refine wp_region_ext (by kernel_rfl) (by kernel_rfl) ?_
            repeat (go_big_quiet_step (first | (go_at_call 41; exact Calls.ext_of (CW.out _)) | (go_at_call 40; with_reducible exact Calls.ext_of (CH.out _)) | (go_at_call 40; with_reducible exact Calls.ext_of (CK.out _))))
            refine wpQuiet_nil ?_
            intro w4 hw4
            have HE := Lib.hid (ext_end hw4)
            have R3 := Lib.hid (hbel2.out.trans (HE.out.mono hbel2.out.size))
            clear hw4 X0 X1 X2 X3 X4 Y0 Y1 Y2 Y3 Y4
            have X0 := Ext.cell ((HE.out.cell (World.block_lt_of_cell? _ _ KX.out.1)).trans KX.out.1)
            have X1 := Ext.cell ((HE.out.cell (World.block_lt_of_cell? _ _ KX.out.2.1)).trans KX.out.2.1)
            have X2 := Ext.cell ((HE.out.cell (World.block_lt_of_cell? _ _ KX.out.2.2.1)).trans KX.out.2.2.1)
            have X3 := Ext.cell ((HE.out.cell (World.block_lt_of_cell? _ _ KX.out.2.2.2.1)).trans KX.out.2.2.2.1)
            have X4 := Ext.cell ((HE.out.cell (World.block_lt_of_cell? _ _ KX.out.2.2.2.2)).trans KX.out.2.2.2.2)
            have Y0 := Ext.cell ((HE.out.cell (World.block_lt_of_cell? _ _ KY.out.1)).trans KY.out.1)
            have Y1 := Ext.cell ((HE.out.cell (World.block_lt_of_cell? _ _ KY.out.2.1)).trans KY.out.2.1)
            have Y2 := Ext.cell ((HE.out.cell (World.block_lt_of_cell? _ _ KY.out.2.2.1)).trans KY.out.2.2.1)
            have Y3 := Ext.cell ((HE.out.cell (World.block_lt_of_cell? _ _ KY.out.2.2.2.1)).trans KY.out.2.2.2.1)
            have Y4 := Ext.cell ((HE.out.cell (World.block_lt_of_cell? _ _ KY.out.2.2.2.2)).trans KY.out.2.2.2.2)
            have q := eq_dot x.s x.n y.s y.n
            have c3 := fun z : Ext w4 => refSameOne_any x y _ _ _ _ _ _ z.w ((HRX.out.below HE.out).below z.below) ((HRY.out.below HE.out).below z.below)
            cases he : decide (x.s = y.s ∧ x.n = y.n)
            · simp only [he] at q
              have HS := Lib.hid (HR.out.step HY.out ⟨HP1.out, fun h => absurd h (of_decide_eq_false he)⟩)
              have C3 := HS
              clear he c3
              go_wp2_with fail
              refine wp_region_ext (by kernel_rfl) (by kernel_rfl) ?_
              repeat (go_big_quiet_step ((go_at_call 36; exact Calls.ext_of (C3.out _))))
              refine wpQuiet_nil ?_
              intro w5 hw5
              have R4 := Lib.hid (R3.out.trans ((ext_end hw5).mono R3.out.size))
              clear hw5 X0 X1 X2 X3 X4 Y0 Y1 Y2 Y3 Y4 q
              go_wp2
              go_roundw
              case rel => exact ⟨k + 1, by go_num, by omega, HS, R4⟩
              case measure => simp [intOf]; omega
            · simp only [he] at q
              cases hv : vEq x y
              · simp only [hv] at c3
                have C3 := Lib.hid c3
                clear he hv c3
                go_wp2_with fail
                refine wp_region_ext (by kernel_rfl) (by kernel_rfl) ?_
                repeat (go_big_quiet_step ((go_at_call 36; exact Calls.ext_of (C3.out _))))
                refine wpQuiet_nil ?_
                intro w5 hw5
                have R4 := Lib.hid (R3.out.trans ((ext_end hw5).mono R3.out.size))
                clear hw5 X0 X1 X2 X3 X4 Y0 Y1 Y2 Y3 Y4 q
                go_wp2
                go_ret
                exact ⟨false, rfl, (fun h => by cases h), BB.out.trans (R4.out.mono BB.out.size)⟩
              · simp only [hv] at c3
                have C3 := Lib.hid c3
                have HS := Lib.hid (HR.out.step HY.out ⟨HP1.out, fun _ => of_decide_eq_true hv⟩)
                clear he hv c3
                go_wp2_with fail
                refine wp_region_ext (by kernel_rfl) (by kernel_rfl) ?_
                repeat (go_big_quiet_step ((go_at_call 36; exact Calls.ext_of (C3.out _))))
                refine wpQuiet_nil ?_
                intro w5 hw5
                have R4 := Lib.hid (R3.out.trans ((ext_end hw5).mono R3.out.size))
                clear hw5 X0 X1 X2 X3 X4 Y0 Y1 Y2 Y3 Y4 q
                go_wp2
                go_roundw
                case rel => exact ⟨k + 1, by go_num, by omega, HS, R4⟩
                case measure => simp [intOf]; omega
          · simp only [h1] at ch
            have CH := Lib.hid ch
            clear ch h1
            cases h2 : withinS y.past x.past
            · simp only [h2] at cw
              have CW := Lib.hid cw
              have CK := CW
              clear cw ck h2
              go_wp2_with fail
              refine wp_region_ext (by kernel_rfl) (by kernel_rfl) ?_
              repeat (go_big_quiet_step (first | (go_at_call 41; exact Calls.ext_of (CW.out _)) | (go_at_call 40; with_reducible exact Calls.ext_of (CH.out _)) | (go_at_call 40; with_reducible exact Calls.ext_of (CK.out _))))
              refine wpQuiet_nil ?_
              intro w4 hw4
              have HE := Lib.hid (ext_end hw4)
              have R3 := Lib.hid (hbel2.out.trans (HE.out.mono hbel2.out.size))
              clear hw4 X0 X1 X2 X3 X4 Y0 Y1 Y2 Y3 Y4
              go_wp2
              go_ret
              exact ⟨false, rfl, (fun h => by cases h), BB.out.trans (R3.out.mono BB.out.size)⟩
            · simp only [h2] at cw
              have CW := Lib.hid cw
              have HW2 := Lib.hid (withinS_true.1 h2).2.2
              clear cw h2
              cases h3 : hasB y.past x.s x.n
              · simp only [h3] at ck
                have CK := Lib.hid ck
                have HP1 := Lib.hid (show hasB x.past y.s y.n = true → (∀ s n, has y.past s n → has x.past s n) ∧ hasB y.past x.s x.n = false from fun _ => ⟨HW2.out, h3⟩)
                clear ck h3
                go_wp2_with fail
                refine wp_region_ext (by kernel_rfl) (by kernel_rfl) ?_
                repeat (go_big_quiet_step (first | (go_at_call 41; exact Calls.ext_of (CW.out _)) | (go_at_call 40; with_reducible exact Calls.ext_of (CH.out _)) | (go_at_call 40; with_reducible exact Calls.ext_of (CK.out _))))
                refine wpQuiet_nil ?_
                intro w4 hw4
                have HE := Lib.hid (ext_end hw4)
                have R3 := Lib.hid (hbel2.out.trans (HE.out.mono hbel2.out.size))
                clear hw4 X0 X1 X2 X3 X4 Y0 Y1 Y2 Y3 Y4
                have X0 := Ext.cell ((HE.out.cell (World.block_lt_of_cell? _ _ KX.out.1)).trans KX.out.1)
                have X1 := Ext.cell ((HE.out.cell (World.block_lt_of_cell? _ _ KX.out.2.1)).trans KX.out.2.1)
                have X2 := Ext.cell ((HE.out.cell (World.block_lt_of_cell? _ _ KX.out.2.2.1)).trans KX.out.2.2.1)
                have X3 := Ext.cell ((HE.out.cell (World.block_lt_of_cell? _ _ KX.out.2.2.2.1)).trans KX.out.2.2.2.1)
                have X4 := Ext.cell ((HE.out.cell (World.block_lt_of_cell? _ _ KX.out.2.2.2.2)).trans KX.out.2.2.2.2)
                have Y0 := Ext.cell ((HE.out.cell (World.block_lt_of_cell? _ _ KY.out.1)).trans KY.out.1)
                have Y1 := Ext.cell ((HE.out.cell (World.block_lt_of_cell? _ _ KY.out.2.1)).trans KY.out.2.1)
                have Y2 := Ext.cell ((HE.out.cell (World.block_lt_of_cell? _ _ KY.out.2.2.1)).trans KY.out.2.2.1)
                have Y3 := Ext.cell ((HE.out.cell (World.block_lt_of_cell? _ _ KY.out.2.2.2.1)).trans KY.out.2.2.2.1)
                have Y4 := Ext.cell ((HE.out.cell (World.block_lt_of_cell? _ _ KY.out.2.2.2.2)).trans KY.out.2.2.2.2)
                have q := eq_dot x.s x.n y.s y.n
                have c3 := fun z : Ext w4 => refSameOne_any x y _ _ _ _ _ _ z.w ((HRX.out.below HE.out).below z.below) ((HRY.out.below HE.out).below z.below)
                cases he : decide (x.s = y.s ∧ x.n = y.n)
                · simp only [he] at q
                  have HS := Lib.hid (HR.out.step HY.out ⟨HP1.out, fun h => absurd h (of_decide_eq_false he)⟩)
                  have C3 := HS
                  clear he c3
                  go_wp2_with fail
                  refine wp_region_ext (by kernel_rfl) (by kernel_rfl) ?_
                  repeat (go_big_quiet_step ((go_at_call 36; exact Calls.ext_of (C3.out _))))
                  refine wpQuiet_nil ?_
                  intro w5 hw5
                  have R4 := Lib.hid (R3.out.trans ((ext_end hw5).mono R3.out.size))
                  clear hw5 X0 X1 X2 X3 X4 Y0 Y1 Y2 Y3 Y4 q
                  go_wp2
                  go_roundw
                  case rel => exact ⟨k + 1, by go_num, by omega, HS, R4⟩
                  case measure => simp [intOf]; omega
                · simp only [he] at q
                  cases hv : vEq x y
                  · simp only [hv] at c3
                    have C3 := Lib.hid c3
                    clear he hv c3
                    go_wp2_with fail
                    refine wp_region_ext (by kernel_rfl) (by kernel_rfl) ?_
                    repeat (go_big_quiet_step ((go_at_call 36; exact Calls.ext_of (C3.out _))))
                    refine wpQuiet_nil ?_
                    intro w5 hw5
                    have R4 := Lib.hid (R3.out.trans ((ext_end hw5).mono R3.out.size))
                    clear hw5 X0 X1 X2 X3 X4 Y0 Y1 Y2 Y3 Y4 q
                    go_wp2
                    go_ret
                    exact ⟨false, rfl, (fun h => by cases h), BB.out.trans (R4.out.mono BB.out.size)⟩
                  · simp only [hv] at c3
                    have C3 := Lib.hid c3
                    have HS := Lib.hid (HR.out.step HY.out ⟨HP1.out, fun _ => of_decide_eq_true hv⟩)
                    clear he hv c3
                    go_wp2_with fail
                    refine wp_region_ext (by kernel_rfl) (by kernel_rfl) ?_
                    repeat (go_big_quiet_step ((go_at_call 36; exact Calls.ext_of (C3.out _))))
                    refine wpQuiet_nil ?_
                    intro w5 hw5
                    have R4 := Lib.hid (R3.out.trans ((ext_end hw5).mono R3.out.size))
                    clear hw5 X0 X1 X2 X3 X4 Y0 Y1 Y2 Y3 Y4 q
                    go_wp2
                    go_roundw
                    case rel => exact ⟨k + 1, by go_num, by omega, HS, R4⟩
                    case measure => simp [intOf]; omega
              · simp only [h3] at ck
                have CK := Lib.hid ck
                clear ck h3
                go_wp2_with fail
                refine wp_region_ext (by kernel_rfl) (by kernel_rfl) ?_
                repeat (go_big_quiet_step (first | (go_at_call 41; exact Calls.ext_of (CW.out _)) | (go_at_call 40; with_reducible exact Calls.ext_of (CH.out _)) | (go_at_call 40; with_reducible exact Calls.ext_of (CK.out _))))
                refine wpQuiet_nil ?_
                intro w4 hw4
                have HE := Lib.hid (ext_end hw4)
                have R3 := Lib.hid (hbel2.out.trans (HE.out.mono hbel2.out.size))
                clear hw4 X0 X1 X2 X3 X4 Y0 Y1 Y2 Y3 Y4
                go_wp2
                go_ret
                exact ⟨false, rfl, (fun h => by cases h), BB.out.trans (R3.out.mono BB.out.size)⟩
        · obtain rfl : k = N := by omega
          have HS := Lib.hid (HT.out.step HX.out HR.out (by omega))
          go_wp2
          go_roundw
          case rel => exact ⟨i + 1, by go_num, by omega, HS, hbel2⟩
          case measure => simp [intOf]; omega
    · obtain rfl : i = N := by omega
      have HE := Lib.hid (HT.out.all (by omega))
      go_wp2
      go_ret
      exact ⟨true, rfl, fun _ => HE.out, BB.out.trans (hbel.out.mono BB.out.size)⟩
end Go.Proofs.Ytlcfknpmnoghbaa
