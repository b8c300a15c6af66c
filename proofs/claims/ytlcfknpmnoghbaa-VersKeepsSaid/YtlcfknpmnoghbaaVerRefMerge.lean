/-
  firthref05.Merge: the document's answer on what comes of two sets.
-/
import Derived.Test.YtlcfknpmnoghbaaVerRefPut
namespace Go.Proofs.Ytlcfknpmnoghbaa
open Go.RowKit
set_option linter.unusedVariables false

def isTw (x y : Vr) : Prop := (x.s = y.s ∧ x.n = y.n) ∧ x ≠ y
def TwTo (a b : List Vr) (i : Nat) : Prop := ∀ j x, j < i → a[j]? = some x → ∀ y ∈ b, ¬ isTw x y
def TwRow (x : Vr) (b : List Vr) (k : Nat) : Prop := ∀ y ∈ b.take k, ¬ isTw x y
theorem TwTo.start (a b : List Vr) : TwTo a b 0 := fun j x h => absurd h (by omega)
theorem TwRow.start (x : Vr) (b : List Vr) : TwRow x b 0 := fun y h => by simp at h
theorem TwRow.step {x y : Vr} {b : List Vr} {k : Nat} (h : TwRow x b k) (hy : b[k]? = some y) (hn : ¬ isTw x y) : TwRow x b (k + 1) := fun z hz => by
  rcases mem_take_succ hy hz with h1 | rfl
  · exact h z h1
  · exact hn
theorem TwTo.step {a b : List Vr} {i k : Nat} {x : Vr} (h : TwTo a b i) (hx : a[i]? = some x) (hr : TwRow x b k) (hk : b.length ≤ k) : TwTo a b (i + 1) := fun j z hj hz => by
  rcases Nat.lt_or_ge j i with h1 | h1
  · exact h j z h1 hz
  · obtain rfl : j = i := by omega
    rw [hx] at hz
    obtain rfl := Option.some.inj hz
    intro y hy
    exact hr y (by rw [List.take_of_length_le hk]; exact hy)
theorem TwTo.all {a b : List Vr} {i : Nat} (h : TwTo a b i) (hi : a.length ≤ i) (ha : RightV a) (hb : RightV b) : mrgT a b = false := by
  rw [Bool.eq_false_iff]
  intro ht
  obtain ⟨x, hx, y, hy, k⟩ := (mrgT_iff a b ha.1.2 hb.1.2).1 ht
  obtain ⟨j, hj, rfl⟩ := List.getElem_of_mem hx
  exact h j _ (by omega) (List.getElem?_eq_getElem hj) y hy k
theorem tw_hit {a b : List Vr} {i k : Nat} {x y : Vr} (hx : a[i]? = some x) (hy : b[k]? = some y) (h : isTw x y) (ha : RightV a) (hb : RightV b) : mrgT a b = true :=
  (mrgT_iff a b ha.1.2 hb.1.2).2 ⟨x, List.mem_of_getElem? hx, y, List.mem_of_getElem? hy, h⟩
theorem isTw_no {x y : Vr} (h : decide (x.s = y.s ∧ x.n = y.n) = false ∨ vEq x y = true) : ¬ isTw x y := fun k => by
  rcases h with h | h
  · exact of_decide_eq_false h k.1
  · exact k.2 (of_decide_eq_true h)
theorem isTw_yes {x y : Vr} (h1 : decide (x.s = y.s ∧ x.n = y.n) = true) (h2 : vEq x y = false) : isTw x y := ⟨of_decide_eq_true h1, of_decide_eq_false h2⟩
noncomputable def f1 (a b : List Vr) (k : Nat) : List Vr := foldV (fun v => !behB b v.s v.n) [] (a.take k)
noncomputable def f2 (a b : List Vr) (k : Nat) : List Vr := foldV (fun v => !behB a v.s v.n) (foldV (fun v => !behB b v.s v.n) [] a) (b.take k)
theorem f1_step {a b : List Vr} {k : Nat} {x : Vr} (hx : a[k]? = some x) : f1 a b (k + 1) = if (!behB b x.s x.n) = true then putV (f1 a b k) x else f1 a b k := by
  unfold f1
  rw [List.take_add_one, hx]
  exact foldV_snoc _ _ _ _
theorem f2_step {a b : List Vr} {k : Nat} {x : Vr} (hx : b[k]? = some x) : f2 a b (k + 1) = if (!behB a x.s x.n) = true then putV (f2 a b k) x else f2 a b k := by
  unfold f2
  rw [List.take_add_one, hx]
  exact foldV_snoc _ _ _ _
theorem f1_no {a b : List Vr} {k : Nat} {x : Vr} (hx : a[k]? = some x) (h : behB b x.s x.n = true) : f1 a b (k + 1) = f1 a b k := by rw [f1_step hx, h]; rfl
theorem f1_yes {a b : List Vr} {k : Nat} {x : Vr} (hx : a[k]? = some x) (h : behB b x.s x.n = false) : f1 a b (k + 1) = putV (f1 a b k) x := by rw [f1_step hx, h]; rfl
theorem f2_no {a b : List Vr} {k : Nat} {x : Vr} (hx : b[k]? = some x) (h : behB a x.s x.n = true) : f2 a b (k + 1) = f2 a b k := by rw [f2_step hx, h]; rfl
theorem f2_yes {a b : List Vr} {k : Nat} {x : Vr} (hx : b[k]? = some x) (h : behB a x.s x.n = false) : f2 a b (k + 1) = putV (f2 a b k) x := by rw [f2_step hx, h]; rfl
theorem f1_len (a b : List Vr) (k : Nat) : (f1 a b k).length ≤ a.length := by
  have := foldV_len (fun v => !behB b v.s v.n) (a.take k) []
  unfold f1
  rw [List.length_take] at this
  simp at this
  omega
theorem f2_len (a b : List Vr) (k : Nat) : (f2 a b k).length ≤ a.length + b.length := by
  have h1 := foldV_len (fun v => !behB b v.s v.n) a []
  have h2 := foldV_len (fun v => !behB a v.s v.n) (b.take k) (foldV (fun v => !behB b v.s v.n) [] a)
  unfold f2
  rw [List.length_take] at h2
  simp at h1
  omega
theorem f2_start {a b : List Vr} {k : Nat} (hk : a.length ≤ k) : f2 a b 0 = f1 a b k := by unfold f1 f2; rw [List.take_of_length_le hk]; rfl
theorem f2_end {a b : List Vr} {k : Nat} (hk : b.length ≤ k) : f2 a b k = refJoin a b := by unfold f2 refJoin; rw [List.take_of_length_le hk]
/-- What a call leaves that answers versions that lie somewhere, and an error's number. -/
def VersE (w : World) (l : List Vr) (x : Int) (e : Ending) (w' : World) : Prop :=
  ∃ A n c, e = .returned (.tuple #[.slice A n c, .int .i64 x]) ∧ SlV w' A n l ∧ n ≤ c ∧ Below w.heap.size w w'
theorem VersE.nil2 {w w' : World} {l : List Vr} {x y : Int} (b : Below w.heap.size w w') (h : x = y ∧ l = []) : VersE w l x (.returned (.tuple #[.slice none 0 0, .int .i64 y])) w' := by
  rw [h.1, h.2]
  exact ⟨none, 0, 0, rfl, SlV.nil _ _, Nat.le_refl _, b⟩
theorem VersE.of {w w' : World} {l l' : List Vr} {x y : Int} {A : Option Addr} {n c : Nat} (h : SlV w' A n l') (hc : n ≤ c) (b : Below w.heap.size w w') (hx : x = y) (hl : l' = l) : VersE w l x (.returned (.tuple #[.slice A n c, .int .i64 y])) w' := by
  rw [hx, ← hl]
  exact ⟨A, n, c, rfl, h, hc, b⟩

set_option maxHeartbeats 4000000 in
set_option maxRecDepth 100000 in
theorem refMerge_any (A1 A2 : Option Addr) (n1 n2 c1 c2 : Nat) (a b : List Vr) (w : World) (h1 : SlV w A1 n1 a) (h2 : SlV w A2 n2 b) (hn1 : n1 ≤ 140737488351232) (hn2 : n2 ≤ 140737488351232) :
    Calls Try.prog 17 #[.slice A1 n1 c1, .slice A2 n2 c2] w (VersE w (mergedL a b) (mrgE a b)) := by
  have HL1 := Lib.hid h1.len
  have HL2 := Lib.hid h2.len
  have D1 := refRightV_any A1 n1 c1 a w h1 hn1
  have H1 := Lib.hid h1
  have H2 := Lib.hid h2
  clear h1 h2
  cases ha : rightV a
  · have HY := Lib.hid (mrg_no (a := a) (b := b) (by rw [ha]; rfl))
    rw [ha] at D1
    have C1 := Lib.hid D1
    clear D1 ha
    go_enter Try.func17, Try.ntmps17
    go_wp2_with fail
    refine C1.out.mono ?_
    rintro e w1 ⟨rfl, b1⟩
    have R1 := Lib.hid b1
    clear b1 C1
    go_wp2
    go_ret2
    exact VersE.nil2 R1.out HY.out
  · rw [ha] at D1
    have C1 := Lib.hid D1
    have HRA := Lib.hid ha
    clear D1 ha
    have hl1 : n1 ≤ 512 := by have := (rightV_true.1 HRA.out).2; have := HL1.out; omega
    cases hb : rightV b
    · have HY := Lib.hid (mrg_no (a := a) (b := b) (by rw [hb]; simp))
      have HRB := Lib.hid hb
      clear hb
      go_enter Try.func17, Try.ntmps17
      go_wp2_with fail
      refine C1.out.mono ?_
      rintro e w1 ⟨rfl, b1⟩
      have R1 := Lib.hid b1
      have D2 := refRightV_any A2 n2 c2 b w1 (H2.out.below R1.out) hn2
      rw [HRB.out] at D2
      have C2 := Lib.hid D2
      clear b1 C1 D2
      go_wp2_with fail
      refine C2.out.mono ?_
      rintro e w2 ⟨rfl, b2⟩
      have R2 := Lib.hid (R1.out.trans (b2.mono R1.out.size))
      clear b2 C2
      go_wp2
      go_ret2
      exact VersE.nil2 R2.out HY.out
    · have HRB := Lib.hid hb
      clear hb
      have hl2 : n2 ≤ 512 := by have := (rightV_true.1 HRB.out).2; have := HL2.out; omega
      have RA := Lib.hid (rightV_true.1 HRA.out)
      have RB := Lib.hid (rightV_true.1 HRB.out)
      go_enter Try.func17, Try.ntmps17
      go_wp2_with fail
      refine C1.out.mono ?_
      rintro e w1 ⟨rfl, b1⟩
      have R1 := Lib.hid b1
      have D2 := refRightV_any A2 n2 c2 b w1 (H2.out.below R1.out) hn2
      rw [HRB.out] at D2
      have C2 := Lib.hid D2
      clear b1 C1 D2
      go_wp2_with fail
      refine C2.out.mono ?_
      rintro e w2 ⟨rfl, b2⟩
      have R2 := Lib.hid (R1.out.trans (b2.mono R1.out.size))
      clear b2 C2
      go_wp2
      go_loopw [6] (fun t wr => ∃ (i : Nat), t = .int .i64 (i : Int) ∧ i ≤ n1 ∧ Hid (TwTo a b i) ∧ Hid (Below w.heap.size w wr)) (fun t _ => n1 - (intOf t).toNat)
      case atStart => exact ⟨0, rfl, Nat.zero_le _, TwTo.start a b, R2⟩
      case round =>
        obtain ⟨i, rfl, hi, HT, hbel⟩ := hrel
        by_cases hlt : i < n1
        · have j0 : (0 : Int) ≤ (i : Int) := by omega
          have j1 : (i : Int) < (n1 : Int) := by omega
          obtain ⟨b1, off1, x, Ap1, np1, cp1, e1, hx, -, -, -, -, -, -⟩ := H1.out.at_ hlt
          subst e1
          have HX := Lib.hid hx
          clear hx
          go_wp2
          go_loopw [7] (fun t wr2 => ∃ (k : Nat), t = .int .i64 (k : Int) ∧ k ≤ n2 ∧ Hid (TwRow x b k) ∧ Hid (Below w.heap.size w wr2)) (fun t _ => n2 - (intOf t).toNat)
          case atStart => exact ⟨0, rfl, Nat.zero_le _, TwRow.start x b, hbel⟩
          case round =>
            obtain ⟨k, rfl, hk, HR, hbel2⟩ := hrel
            by_cases hlt2 : k < n2
            · have j2 : (0 : Int) ≤ (k : Int) := by omega
              have j3 : (k : Int) < (n2 : Int) := by omega
              obtain ⟨b', off', x', Ax, nx, cx, e', hx', hrx, hc0, hc1, hc2, hc3, hc4⟩ := (H1.out.below hbel2.out).at_ hlt
              injection e' with e'
              injection e' with e1 e2
              subst e1 e2
              rw [HX.out] at hx'
              obtain rfl := Option.some.inj hx'
              obtain ⟨b2, off2, y, Ay, ny, cy, e2, hy, hry, hd0, hd1, hd2, hd3, hd4⟩ := (H2.out.below hbel2.out).at_ hlt2
              subst e2
              have HY := Lib.hid hy
              have X0 := Ext.cell hc0
              have X1 := Ext.cell hc1
              have X2 := Ext.cell hc2
              have X3 := Ext.cell hc3
              have X4 := Ext.cell hc4
              have Y0 := Ext.cell hd0
              have Y1 := Ext.cell hd1
              have Y2 := Ext.cell hd2
              have Y3 := Ext.cell hd3
              have Y4 := Ext.cell hd4
              have q := eq_dot x.s x.n y.s y.n
              have c3 := fun z : Ext _ => refSameOne_any x y _ _ _ _ _ _ z.w (hrx.below z.below) (hry.below z.below)
              clear hx' hrx hy hry hc0 hc1 hc2 hc3 hc4 hd0 hd1 hd2 hd3 hd4
              cases he : decide (x.s = y.s ∧ x.n = y.n)
              · simp only [he] at q
                have HS := Lib.hid (HR.out.step HY.out (isTw_no (.inl he)))
                have C3 := HS
                clear he c3
                go_wp2_with fail
                refine wp_region_ext (by kernel_rfl) (by kernel_rfl) ?_
                repeat (go_big_quiet_step ((go_at_call 36; exact Calls.ext_of (C3.out _))))
                refine wpQuiet_nil ?_
                intro w3 hw3
                have B3 := Lib.hid (hbel2.out.trans ((ext_end hw3).mono hbel2.out.size))
                clear hw3 X0 X1 X2 X3 X4 Y0 Y1 Y2 Y3 Y4 q
                go_wp2
                go_roundw
                case rel => exact ⟨k + 1, by go_num, by omega, HS, B3⟩
                case measure => simp [intOf]; omega
              · simp only [he] at q
                cases hv : vEq x y
                · simp only [hv] at c3
                  have C3 := Lib.hid c3
                  have HF := Lib.hid (mrg_twin HRA.out HRB.out (tw_hit HX.out HY.out (isTw_yes he hv) RA.out RB.out))
                  clear he hv c3
                  go_wp2_with fail
                  refine wp_region_ext (by kernel_rfl) (by kernel_rfl) ?_
                  repeat (go_big_quiet_step ((go_at_call 36; exact Calls.ext_of (C3.out _))))
                  refine wpQuiet_nil ?_
                  intro w3 hw3
                  have B3 := Lib.hid (hbel2.out.trans ((ext_end hw3).mono hbel2.out.size))
                  clear hw3 X0 X1 X2 X3 X4 Y0 Y1 Y2 Y3 Y4 q
                  go_wp2
                  go_ret2
                  exact VersE.nil2 B3.out HF.out
                · simp only [hv] at c3
                  have C3 := Lib.hid c3
                  have HS := Lib.hid (HR.out.step HY.out (isTw_no (.inr hv)))
                  clear he hv c3
                  go_wp2_with fail
                  refine wp_region_ext (by kernel_rfl) (by kernel_rfl) ?_
                  repeat (go_big_quiet_step ((go_at_call 36; exact Calls.ext_of (C3.out _))))
                  refine wpQuiet_nil ?_
                  intro w3 hw3
                  have B3 := Lib.hid (hbel2.out.trans ((ext_end hw3).mono hbel2.out.size))
                  clear hw3 X0 X1 X2 X3 X4 Y0 Y1 Y2 Y3 Y4 q
                  go_wp2
                  go_roundw
                  case rel => exact ⟨k + 1, by go_num, by omega, HS, B3⟩
                  case measure => simp [intOf]; omega
            · obtain rfl : k = n2 := by omega
              have HS := Lib.hid (HT.out.step HX.out HR.out (by have := HL2.out; omega))
              go_wp2
              go_roundw
              case rel => exact ⟨i + 1, by go_num, by omega, HS, hbel2⟩
              case measure => simp [intOf]; omega
        · obtain rfl : i = n1 := by omega
          have HNT := Lib.hid (HT.out.all (by have := HL1.out; omega) RA.out RB.out)
          have st := Lib.hid (SlV.nil wr none)
          go_wp2
          go_loopw [8, 9] (fun t8 t9 wr => ∃ (k : Nat) (Ao : Option Addr) (no co : Nat), t8 = .slice Ao no co ∧ t9 = .int .i64 (k : Int) ∧ k ≤ i ∧ Hid (SlV wr Ao no (f1 a b k)) ∧ no ≤ co ∧ (no = 0 → Ao = none ∧ co = 0) ∧ Hid (Below w.heap.size w wr)) (fun _ t9 _ => i - (intOf t9).toNat)
          case atStart => exact ⟨0, none, 0, 0, rfl, rfl, Nat.zero_le _, st, Nat.le_refl _, fun _ => ⟨rfl, rfl⟩, hbel⟩
          case round =>
            obtain ⟨k, Ao, no, co, rfl, rfl, hk, HO, hco, hA, hbel⟩ := hrel
            have hno : no ≤ 512 := by
              have h1 := HO.out.len
              have h2 := f1_len a b k
              have h3 := HL1.out
              omega
            by_cases hlt : k < i
            · have j0 : (0 : Int) ≤ (k : Int) := by omega
              have j1 : (k : Int) < (i : Int) := by omega
              obtain ⟨b1, off1, x, Ax, nx, cx, e1, hx, hr, hc0, hc1, hc2, hc3, hc4⟩ := (H1.out.below hbel.out).at_ hlt
              subst e1
              have HX := Lib.hid hx
              have K0 := Lib.hid (And.intro hc0 hc1)
              have c1' := refBehind_any _ _ c2 b x.s x.n wr (H2.out.below hbel.out) (by omega)
              have HR := Lib.hid hr
              have hsz := hbel.out.size
              clear hx hr
              cases hb : behB b x.s x.n
              · rw [hb] at c1'
                have C1' := Lib.hid c1'
                have HF := Lib.hid (f1_yes HX.out hb)
                clear c1' hb
                go_wp2_with fail
                refine C1'.out.mono ?_
                rintro e w3 ⟨rfl, b3⟩
                have B3 := Lib.hid (hbel.out.trans (b3.mono hsz))
                obtain ⟨b', off', x', Ax', nx', cx', e', hx', hr', hd0, hd1, hd2, hd3, hd4⟩ := (H1.out.below B3.out).at_ (k := k) (by omega)
                injection e' with e'
                injection e' with e1 e2
                subst e1 e2
                rw [HX.out] at hx'
                obtain rfl := Option.some.inj hx'
                have HP := Lib.hid (refPut_any Ao no co _ x Ax' nx' cx' w3 (HO.out.below b3) hr' (by omega) hco hA)
                clear b3 C1' hx' hr' hc0 hc1 hc2 hc3 hc4
                go_wp2_with fail
                refine HP.out.mono ?_
                rintro e w4 ⟨A4, n4, c4, rfl, s4, hc4', hA4, b4⟩
                have B4 := Lib.hid (B3.out.trans (b4.mono B3.out.size))
                have S4 := Lib.hid s4
                clear s4 b4 HP hd0 hd1 hd2 hd3 hd4
                go_wp2
                go_roundw
                case rel => exact ⟨k + 1, A4, n4, c4, rfl, by go_num, by omega, by rw [HF.out]; exact S4, hc4', hA4, B4⟩
                case measure => simp [intOf]; omega
              · rw [hb] at c1'
                have C1' := Lib.hid c1'
                have HF := Lib.hid (f1_no HX.out hb)
                clear c1' hb
                go_wp2_with fail
                refine C1'.out.mono ?_
                rintro e w3 ⟨rfl, b3⟩
                have B3 := Lib.hid (hbel.out.trans (b3.mono hsz))
                have S3 := Lib.hid (HO.out.below b3)
                clear b3 C1' hc0 hc1 hc2 hc3 hc4
                go_wp2
                go_roundw
                case rel => exact ⟨k + 1, Ao, no, co, rfl, by go_num, by omega, by rw [HF.out]; exact S3, hco, hA, B3⟩
                case measure => simp [intOf]; omega
            · obtain rfl : k = i := by omega
              have ST := Lib.hid (show SlV wr Ao no (f2 a b 0) from by rw [f2_start (k := k) (by have := HL1.out; omega)]; exact HO.out)
              go_wp2
              go_loopw [8, 10] (fun t8 t10 wr => ∃ (m : Nat) (Ao : Option Addr) (no co : Nat), t8 = .slice Ao no co ∧ t10 = .int .i64 (m : Int) ∧ m ≤ n2 ∧ Hid (SlV wr Ao no (f2 a b m)) ∧ no ≤ co ∧ (no = 0 → Ao = none ∧ co = 0) ∧ Hid (Below w.heap.size w wr)) (fun _ t10 _ => n2 - (intOf t10).toNat)
              case atStart => exact ⟨0, Ao, no, co, rfl, rfl, Nat.zero_le _, ST, hco, hA, hbel⟩
              case round =>
                clear HO hno
                obtain ⟨m, Ao, no, co, rfl, rfl, hm, HO, hco, hA, hbel⟩ := hrel
                have hno : no ≤ 1024 := by
                  have h1 := HO.out.len
                  have h2 := f2_len a b m
                  have h3 := HL1.out
                  have h4 := HL2.out
                  omega
                by_cases hlt : m < n2
                · obtain ⟨k, hkm⟩ : ∃ k, k = m := ⟨_, rfl⟩
                  subst hkm
                  have j0 : (0 : Int) ≤ (k : Int) := by omega
                  have j1 : (k : Int) < (n2 : Int) := by omega
                  obtain ⟨b1, off1, x, Ax, nx, cx, e1, hx, hr, hc0, hc1, hc2, hc3, hc4⟩ := (H2.out.below hbel.out).at_ hlt
                  subst e1
                  have HX := Lib.hid hx
                  have K0 := Lib.hid (And.intro hc0 hc1)
                  have c1' := refBehind_any _ _ c1 a x.s x.n wr (H1.out.below hbel.out) (by omega)
                  have HR := Lib.hid hr
                  have hsz := hbel.out.size
                  clear hx hr
                  cases hb : behB a x.s x.n
                  · rw [hb] at c1'
                    have C1' := Lib.hid c1'
                    have HF := Lib.hid (f2_yes HX.out hb)
                    clear c1' hb
                    go_wp2_with fail
                    refine C1'.out.mono ?_
                    rintro e w3 ⟨rfl, b3⟩
                    have B3 := Lib.hid (hbel.out.trans (b3.mono hsz))
                    obtain ⟨b', off', x', Ax', nx', cx', e', hx', hr', hd0, hd1, hd2, hd3, hd4⟩ := (H2.out.below B3.out).at_ (k := k) (by omega)
                    injection e' with e'
                    injection e' with e1 e2
                    subst e1 e2
                    rw [HX.out] at hx'
                    obtain rfl := Option.some.inj hx'
                    have HP := Lib.hid (refPut_any Ao no co _ x Ax' nx' cx' w3 (HO.out.below b3) hr' (by omega) hco hA)
                    clear b3 C1' hx' hr' hc0 hc1 hc2 hc3 hc4
                    go_wp2_with fail
                    refine HP.out.mono ?_
                    rintro e w4 ⟨A4, n4, c4, rfl, s4, hc4', hA4, b4⟩
                    have B4 := Lib.hid (B3.out.trans (b4.mono B3.out.size))
                    have S4 := Lib.hid s4
                    clear s4 b4 HP hd0 hd1 hd2 hd3 hd4
                    go_wp2
                    go_roundw
                    case rel => exact ⟨k + 1, A4, n4, c4, rfl, by go_num, by omega, by rw [HF.out]; exact S4, hc4', hA4, B4⟩
                    case measure => simp [intOf]; omega
                  · rw [hb] at c1'
                    have C1' := Lib.hid c1'
                    have HF := Lib.hid (f2_no HX.out hb)
                    clear c1' hb
                    go_wp2_with fail
                    refine C1'.out.mono ?_
                    rintro e w3 ⟨rfl, b3⟩
                    have B3 := Lib.hid (hbel.out.trans (b3.mono hsz))
                    have S3 := Lib.hid (HO.out.below b3)
                    clear b3 C1' hc0 hc1 hc2 hc3 hc4
                    go_wp2
                    go_roundw
                    case rel => exact ⟨k + 1, Ao, no, co, rfl, by go_num, by omega, by rw [HF.out]; exact S3, hco, hA, B3⟩
                    case measure => simp [intOf]; omega
                · obtain rfl : m = n2 := by omega
                  have HE := Lib.hid ((f2_end (a := a) (b := b) (k := m) (by have := HL2.out; omega)).trans (refJoin_eq RA.out RB.out HNT.out))
                  have hl := HO.out.len
                  rw [HE.out] at hl
                  by_cases h5 : 512 < no
                  · have HF := Lib.hid (mrg_long HRA.out HRB.out HNT.out (by omega))
                    clear hl
                    go_wp2
                    go_ret2
                    exact VersE.nil2 hbel.out HF.out
                  · have HF := Lib.hid (mrg_ok HRA.out HRB.out HNT.out (by omega))
                    clear hl
                    go_wp2
                    go_ret2
                    exact VersE.of HO.out hco hbel.out HF.out.1 (HE.out.trans HF.out.2.symm)
end Go.Proofs.Ytlcfknpmnoghbaa
