/-
  vers.Merge: what comes of two sets.
-/
import Derived.Test.YtlcfknpmnoghbaaVerKeep
import Derived.Test.YtlcfknpmnoghbaaVerRight
namespace Go.Proofs.Ytlcfknpmnoghbaa
open Go.RowKit
set_option linter.unusedVariables false

def MInv (a b : List Vr) (i k : Nat) (tw : Bool) (out : List Vr) : Prop :=
  out ++ mrgL (keepB a b) (a.drop i) (b.drop k) = joinV a b ∧ (tw || mrgT (a.drop i) (b.drop k)) = mrgT a b
theorem drop_at {α : Type} {l : List α} {i : Nat} {x : α} (h : l[i]? = some x) : l.drop i = x :: l.drop (i + 1) := by
  obtain ⟨h1, h2⟩ := List.getElem?_eq_some_iff.1 h
  rw [List.drop_eq_getElem_cons h1, h2]
theorem outK_keepL (a b out : List Vr) (v : Vr) (l : List Vr) : outK a b out v ++ l = out ++ keepL (keepB a b) v l := by
  unfold outK keepL
  rw [List.append_assoc]
section
variable {a b out : List Vr} {i k : Nat} {tw : Bool} {x y : Vr}
theorem MInv.start (a b : List Vr) : MInv a b 0 0 false [] := ⟨rfl, rfl⟩
theorem MInv.lastA (h : MInv a b i k tw out) (hx : a[i]? = some x) (hk : b.length ≤ k) : MInv a b (i + 1) k tw (outK a b out x) := by
  unfold MInv at *
  rw [drop_at hx, List.drop_eq_nil_of_le hk, mrgL, mrgT] at h
  rw [List.drop_eq_nil_of_le hk, mrgT_nil, outK_keepL]
  exact h
theorem MInv.stepA (h : MInv a b i k tw out) (hx : a[i]? = some x) (hy : b[k]? = some y) (hd : dltB x.s x.n y.s y.n = true) : MInv a b (i + 1) k tw (outK a b out x) := by
  unfold MInv at *
  rw [drop_at hx, drop_at hy, mrgL, mrgT, if_pos hd, if_pos hd] at h
  rw [drop_at hy, outK_keepL]
  exact h
theorem MInv.lastB (h : MInv a b i k tw out) (hy : b[k]? = some y) (hi : a.length ≤ i) : MInv a b i (k + 1) tw (outK a b out y) := by
  unfold MInv at *
  rw [drop_at hy, List.drop_eq_nil_of_le hi, mrgL, mrgT] at h
  rw [List.drop_eq_nil_of_le hi, mrgT, outK_keepL]
  exact h
theorem MInv.stepB (h : MInv a b i k tw out) (hx : a[i]? = some x) (hy : b[k]? = some y) (hd : dltB x.s x.n y.s y.n = false) (he : decide (x.s = y.s ∧ x.n = y.n) = false) : MInv a b i (k + 1) tw (outK a b out y) := by
  unfold MInv at *
  have he := of_decide_eq_false he
  have hd' : ¬ (dltB x.s x.n y.s y.n = true) := by rw [hd]; decide
  rw [drop_at hx, drop_at hy, mrgL, mrgT, if_neg hd', if_neg hd', if_neg he, if_neg he] at h
  rw [drop_at hx, outK_keepL]
  exact h
theorem MInv.stepT (h : MInv a b i k tw out) (hx : a[i]? = some x) (hy : b[k]? = some y) (hd : dltB x.s x.n y.s y.n = false) (he : decide (x.s = y.s ∧ x.n = y.n) = true) : MInv a b (i + 1) k (tw || !vEq x y) out := by
  unfold MInv at *
  have he := of_decide_eq_true he
  have hd' : ¬ (dltB x.s x.n y.s y.n = true) := by rw [hd]; decide
  rw [drop_at hx, drop_at hy, mrgL, mrgT, if_neg hd', if_neg hd', if_pos he, if_pos he] at h
  rw [drop_at hy]
  exact ⟨h.1, by rw [Bool.or_assoc]; exact h.2⟩
theorem MInv.end_ (h : MInv a b i k tw out) (hi : a.length ≤ i) (hk : b.length ≤ k) : out = joinV a b ∧ tw = mrgT a b := by
  unfold MInv at h
  rw [List.drop_eq_nil_of_le hi, List.drop_eq_nil_of_le hk, mrgL, mrgT] at h
  simpa using h
theorem MInv.len (h : MInv a b i k tw out) : out.length ≤ a.length + b.length := by
  have h1 := congrArg List.length h.1
  have h2 := joinV_len a b
  rw [List.length_append] at h1
  omega
end
theorem mrg_no {a b : List Vr} (h : (rightV a && rightV b) = false) : mrgE a b = 1 ∧ mergedL a b = [] := by
  have e : mrgE a b = 1 := by unfold mrgE; rw [if_pos h]
  exact ⟨e, by unfold mergedL; rw [if_neg (by rw [e]; decide)]⟩
theorem mrg_twin {a b : List Vr} (ha : rightV a = true) (hb : rightV b = true) (ht : mrgT a b = true) : mrgE a b = 50 ∧ mergedL a b = [] := by
  have e : mrgE a b = 50 := by unfold mrgE; rw [if_neg (by rw [ha, hb]; decide), if_pos ht]
  exact ⟨e, by unfold mergedL; rw [if_neg (by rw [e]; decide)]⟩
theorem mrg_long {a b : List Vr} (ha : rightV a = true) (hb : rightV b = true) (ht : mrgT a b = false) (hl : 512 < (joinV a b).length) : mrgE a b = 3 ∧ mergedL a b = [] := by
  have e : mrgE a b = 3 := by unfold mrgE; rw [if_neg (by rw [ha, hb]; decide), if_neg (by rw [ht]; decide), if_pos hl]
  exact ⟨e, by unfold mergedL; rw [if_neg (by rw [e]; decide)]⟩
theorem mrg_ok {a b : List Vr} (ha : rightV a = true) (hb : rightV b = true) (ht : mrgT a b = false) (hl : ¬ 512 < (joinV a b).length) : mrgE a b = 0 ∧ mergedL a b = joinV a b := by
  have e : mrgE a b = 0 := by unfold mrgE; rw [if_neg (by rw [ha, hb]; decide), if_neg (by rw [ht]; decide), if_neg hl]
  exact ⟨e, by unfold mergedL; rw [if_pos e]⟩

/-- What a call leaves that answers versions of its own, and an error's number. -/
def NewVers (w : World) (l : List Vr) (x : Int) (e : Ending) (w' : World) : Prop :=
  ∃ A n c rows, e = .returned (.tuple #[.slice A n c, .int .i64 x]) ∧ OwnV w' w.heap.size (.slice A n c) n rows ∧ rows.map (·.1) = l ∧ n ≤ c ∧ Below w.heap.size w w'
theorem NewVers.nil {w w' : World} {x : Int} (b : Below w.heap.size w w') : NewVers w [] x (.returned (.tuple #[.slice none 0 0, .int .i64 x])) w' :=
  ⟨none, 0, 0, [], rfl, OwnV.nil _ _, rfl, Nat.le_refl _, b⟩
theorem NewVers.nil2 {w w' : World} {l : List Vr} {x y : Int} (b : Below w.heap.size w w') (h : x = y ∧ l = []) : NewVers w l x (.returned (.tuple #[.slice none 0 0, .int .i64 y])) w' := by
  rw [h.1, h.2]
  exact NewVers.nil b
theorem own_cap {w : World} {B : Nat} {A : Option Addr} {n c : Nat} {rows : List RV} (h : OwnV w B (.slice A n c) n rows) : n ≤ c := by
  rcases h.1.2 with ⟨e, rfl⟩ | ⟨g, cap, cur, e, _, _, h1, _⟩
  · injection e with _ _ e3; omega
  · injection e with _ _ e3; omega
theorem NewVers.of {w w' : World} {l : List Vr} {x y : Int} {A : Option Addr} {n c : Nat} {rows : List RV} (h : OwnV w' w.heap.size (.slice A n c) n rows) (b : Below w.heap.size w w') (hx : x = y) (hl : rows.map (·.1) = l) : NewVers w l x (.returned (.tuple #[.slice A n c, .int .i64 y])) w' := by
  rw [hx]
  exact ⟨A, n, c, rows, rfl, h, hl, own_cap h, b⟩
theorem two_boxes (w : World) (s1 s2 : Value) : ((w.alloc (.cells #[s1] 22)).alloc (.cells #[s2] 22)).heap[w.heap.size]? = some (.cells #[s1] 22 (0, 0)) ∧ ((w.alloc (.cells #[s1] 22)).alloc (.cells #[s2] 22)).heap[w.heap.size + 1]? = some (.cells #[s2] 22 (0, 0)) ∧
    Below w.heap.size w ((w.alloc (.cells #[s1] 22)).alloc (.cells #[s2] 22)) := by
  have h1 : Below w.heap.size w (w.alloc (.cells #[s1] 22)) := (Below.refl _ _).alloc (Nat.le_refl _) _
  refine ⟨(Below.heap_alloc _ _ _ (by simp)).trans (heap_alloc_new w _), ?_, h1.alloc h1.size _⟩
  have := heap_alloc_new (w.alloc (.cells #[s1] 22)) (.cells #[s2] 22)
  rwa [show (w.alloc (.cells #[s1] 22)).heap.size = w.heap.size + 1 by simp] at this

set_option maxHeartbeats 4000000 in
set_option maxRecDepth 100000 in
theorem merge_any (A1 A2 : Option Addr) (n1 n2 c1 c2 : Nat) (a b : List Vr) (w : World) (h1 : SlV w A1 n1 a) (h2 : SlV w A2 n2 b) (hn1 : n1 ≤ 140737488351232) (hn2 : n2 ≤ 140737488351232) :
    Calls Try.prog 16 #[.slice A1 n1 c1, .slice A2 n2 c2] w (NewVers w (mergedL a b) (mrgE a b)) := by
  have HL1 := Lib.hid h1.len
  have HL2 := Lib.hid h2.len
  have HB := Lib.hid (two_boxes w (.slice A1 n1 c1) (.slice A2 n2 c2))
  have D1 := verRight_any A1 n1 c1 a _ (h1.below HB.out.2.2) hn1
  have H1 := Lib.hid h1
  have H2 := Lib.hid h2
  clear h1 h2
  cases ha : rightV a
  · obtain ⟨x1, x2⟩ := mrg_no (a := a) (b := b) (by rw [ha]; rfl)
    rw [x1, x2]
    rw [ha] at D1
    have C1 := Lib.hid D1
    clear D1 x1 x2 ha
    go_enter Try.func16, Try.ntmps16
    go_wp2_with fail
    refine C1.out.mono ?_
    rintro e w1 ⟨rfl, b1⟩
    have R1 := Lib.hid (HB.out.2.2.trans (b1.mono HB.out.2.2.size))
    clear b1 C1
    go_wp2
    go_ret2
    exact NewVers.nil R1.out
  · rw [ha] at D1
    have C1 := Lib.hid D1
    have HRA := Lib.hid ha
    clear D1 ha
    have hl1 : n1 ≤ 512 := by have := (rightV_true.1 HRA.out).2; have := HL1.out; omega
    cases hb : rightV b
    · obtain ⟨x1, x2⟩ := mrg_no (a := a) (b := b) (by rw [hb]; simp)
      rw [x1, x2]
      have HRB := Lib.hid hb
      clear hb x1 x2
      go_enter Try.func16, Try.ntmps16
      go_wp2_with fail
      refine C1.out.mono ?_
      rintro e w1 ⟨rfl, b1⟩
      have R1 := Lib.hid (HB.out.2.2.trans (b1.mono HB.out.2.2.size))
      have D2 := verRight_any A2 n2 c2 b w1 (H2.out.below R1.out) hn2
      rw [HRB.out] at D2
      have C2 := Lib.hid D2
      have f3 := cell_of_one ((b1.block _ (lt_of_block HB.out.2.1)).trans HB.out.2.1)
      clear b1 C1 D2
      go_wp2_with fail
      refine C2.out.mono ?_
      rintro e w2 ⟨rfl, b2⟩
      have R2 := Lib.hid (R1.out.trans (b2.mono R1.out.size))
      clear b2 C2 f3
      go_wp2
      go_ret2
      exact NewVers.nil R2.out
    · have HRB := Lib.hid hb
      clear hb
      have hl2 : n2 ≤ 512 := by have := (rightV_true.1 HRB.out).2; have := HL2.out; omega
      go_enter Try.func16, Try.ntmps16
      go_wp2_with fail
      refine C1.out.mono ?_
      rintro e w1 ⟨rfl, b1⟩
      have R1 := Lib.hid (HB.out.2.2.trans (b1.mono HB.out.2.2.size))
      have D2 := verRight_any A2 n2 c2 b w1 (H2.out.below R1.out) hn2
      rw [HRB.out] at D2
      have C2 := Lib.hid D2
      have f3 := cell_of_one ((b1.block _ (lt_of_block HB.out.2.1)).trans HB.out.2.1)
      have K2 := Lib.hid ((b1.block _ (lt_of_block HB.out.1)).trans HB.out.1)
      have K3 := Lib.hid ((b1.block _ (lt_of_block HB.out.2.1)).trans HB.out.2.1)
      clear b1 C1 D2
      go_wp2_with fail
      refine C2.out.mono ?_
      rintro e w2 ⟨rfl, b2⟩
      have R2 := Lib.hid (R1.out.trans (b2.mono R1.out.size))
      have K4 := (b2.block _ (lt_of_block K2.out)).trans K2.out
      have K5 := (b2.block _ (lt_of_block K3.out)).trans K3.out
      have st : MSt w (w2.alloc (.cells #[.slice none 0 0] 22)) w.heap.size (w.heap.size + 1) w2.heap.size (.slice A1 n1 c1) (.slice A2 n2 c2) none 0 0 [] :=
        ⟨(Below.heap_alloc _ _ _ (lt_of_block K4)).trans K4, (Below.heap_alloc _ _ _ (lt_of_block K5)).trans K5, heap_alloc_new w2 _, OwnV.nil _ _, R2.out.alloc R2.out.size _, R2.out.size,
          by have := lt_of_block K4; omega, by have := lt_of_block K5; omega⟩
      have HST := Lib.hid st
      clear b2 C2 f3 K4 K5 K2 K3 st
      go_wp2
      generalize hg6 : w2.heap.size = g6 at *
      go_loopw [8, 9, 10] (fun t8 t9 t10 wr => ∃ (tw : Bool) (i k : Nat) (Ao : Option Addr) (no co : Nat) (rows : List RV), t8 = .bool tw ∧ t9 = .int .i64 (i : Int) ∧ t10 = .int .i64 (k : Int) ∧ i ≤ n1 ∧ k ≤ n2 ∧
        Hid (MSt w wr w.heap.size (w.heap.size + 1) g6 (.slice A1 n1 c1) (.slice A2 n2 c2) Ao no co rows) ∧ Hid (MInv a b i k tw (rows.map (·.1)))) (fun _ t9 t10 _ => (n1 + n2) - ((intOf t9).toNat + (intOf t10).toNat))
      case atStart => exact ⟨false, 0, 0, none, 0, 0, [], rfl, rfl, rfl, Nat.zero_le _, Nat.zero_le _, HST, MInv.start a b⟩
      case round =>
        obtain ⟨tw, i, k, Ao, no, co, rows, rfl, rfl, rfl, hi, hk, HM, HI⟩ := hrel
        have hno : no ≤ 1024 := by
          have h1 := HI.out.len
          have h2 := HM.out.own.len
          have h3 := HL1.out
          have h4 := HL2.out
          rw [List.length_map] at h1
          omega
        have f2 := cell_of_one HM.out.b2
        have f3 := cell_of_one HM.out.b3
        have j0 : (0 : Int) ≤ (i : Int) := by omega
        have j2 : (0 : Int) ≤ (k : Int) := by omega
        rcases Nat.lt_or_ge i n1 with hlt | hge
        · have j1 : (i : Int) < (n1 : Int) := by omega
          obtain ⟨b1, off1, x, Ap1, np1, cp1, e1, hx, hr1, hc0, hc1, hc2, hc3, hc4⟩ := (H1.out.below HM.out.below).at_ hlt
          subst e1
          have HX := Lib.hid hx
          have G0 := Ext.cell hc0
          have G1 := Ext.cell hc1
          have F2 := Ext.cell f2
          have F3 := Ext.cell f3
          clear hx hr1 hc0 hc1 hc2 hc3 hc4
          rcases Nat.lt_or_ge k n2 with hlt2 | hge2
          · have j3 : (k : Int) < (n2 : Int) := by omega
            have j4 : ¬ ((k : Int) = (n2 : Int)) := by omega
            have j5 : ((k : Int) == (n2 : Int)) = false := by simpa using j4
            obtain ⟨b2, off2, y, Ap2, np2, cp2, e2, hy, hr2, hd0, hd1, hd2, hd3, hd4⟩ := (H2.out.below HM.out.below).at_ hlt2
            subst e2
            have HY := Lib.hid hy
            have G2 := Ext.cell hd0
            have G3 := Ext.cell hd1
            have c2 := fun z : Ext wr => verBefore_any x.s x.n y.s y.n z.w
            clear hy hr2 hd0 hd1 hd2 hd3 hd4
            cases hd : dltB x.s x.n y.s y.n
            · simp only [hd] at c2
              have C2 := Lib.hid c2
              have HD := Lib.hid hd
              clear c2 hd
              go_wp2_with fail
              refine wp_region_ext (by kernel_rfl) (by kernel_rfl) ?_
              repeat (go_big_quiet_step ((go_at_call 32; exact Calls.ext_of (C2.out _))))
              refine wpQuiet_nil ?_
              intro w1 hw1
              have HE1 := Lib.hid (ext_end hw1)
              have HM1 := Lib.hid (HM.out.move HE1.out)
              have p2 := cell_of_one HM1.out.b2
              have p3 := cell_of_one HM1.out.b3
              clear hw1 f2 f3 G0 G1 G2 G3 F2 F3
              obtain ⟨b', off', v', Ap', np', cp', e', hx', hrx, hc0, hc1, hc2, hc3, hc4⟩ := (H1.out.below HM1.out.below).at_ (k := i) (by omega)
              injection e' with e'
              injection e' with e1 e2
              subst e1 e2
              rw [HX.out] at hx'
              obtain rfl := Option.some.inj hx'
              obtain ⟨b', off', v', Ay', ny', cy', e', hy', hry, hd0, hd1, hd2, hd3, hd4⟩ := (H2.out.below HM1.out.below).at_ (k := k) (by omega)
              injection e' with e'
              injection e' with e1 e2
              subst e1 e2
              rw [HY.out] at hy'
              obtain rfl := Option.some.inj hy'
              have P2 := Ext.cell p2
              have P3 := Ext.cell p3
              have G0 := Ext.cell hc0
              have G1 := Ext.cell hc1
              have G2 := Ext.cell hd0
              have G3 := Ext.cell hd1
              have q := eq_dot x.s x.n y.s y.n
              have HRX := Lib.hid hrx
              have HRY := Lib.hid hry
              clear hx' hy' hrx hry
              cases he : decide (x.s = y.s ∧ x.n = y.n)
              · simp only [he] at q
                have HS := Lib.hid (HI.out.stepB HX.out HY.out HD.out he)
                clear he
                go_wp2_with fail
                refine wp_region_ext (by kernel_rfl) (by kernel_rfl) ?_
                repeat (go_big_quiet_step (fail))
                refine wpQuiet_nil ?_
                intro w2 hw2
                have HE2 := Lib.hid (ext_end hw2)
                have HM2 := Lib.hid (HM1.out.move HE2.out)
                clear hw2 P2 P3 G0 G1 G2 G3 q
                have p2 := (HE2.out.cell (World.block_lt_of_cell? _ _ p2)).trans p2
                have p3 := (HE2.out.cell (World.block_lt_of_cell? _ _ p3)).trans p3
                have hd0 := (HE2.out.cell (World.block_lt_of_cell? _ _ hd0)).trans hd0
                have hd1 := (HE2.out.cell (World.block_lt_of_cell? _ _ hd1)).trans hd1
                have hd2 := (HE2.out.cell (World.block_lt_of_cell? _ _ hd2)).trans hd2
                have hd3 := (HE2.out.cell (World.block_lt_of_cell? _ _ hd3)).trans hd3
                have hd4 := (HE2.out.cell (World.block_lt_of_cell? _ _ hd4)).trans hd4
                have hr := HRY.out.below HE2.out
                have HK := Lib.hid (keep_any w w2 _ _ _ _ _ _ c1 _ c2 a b Ao no co rows y _ _ _ HM2.out (H1.out.below HM2.out.below) (H2.out.below HM2.out.below) hr hn1 hn2 (by omega))
                clear hr hc0 hc1 hc2 hc3 hc4
                go_wp2_with (first | (go_at_call 37; refine HK.out.mono ?_; rintro e w3 ⟨rfl, Ao2, no2, co2, rows2, HM3, hrows2⟩) | fail)
                go_roundw
                case rel => exact ⟨tw, i, k + 1, Ao2, no2, co2, rows2, rfl, by go_num, by go_num, by omega, by omega, HM3, by rw [hrows2]; exact HS.out⟩
                case measure => simp [intOf]; omega
              · simp only [he] at q
                have HS := Lib.hid (HI.out.stepT HX.out HY.out HD.out he)
                clear he
                go_wp2_with fail
                refine wp_region_ext (by kernel_rfl) (by kernel_rfl) ?_
                repeat (go_big_quiet_step (fail))
                refine wpQuiet_nil ?_
                intro w2 hw2
                have HE2 := Lib.hid (ext_end hw2)
                have HM2 := Lib.hid (HM1.out.move HE2.out)
                clear hw2 P2 P3 G0 G1 G2 G3 q
                have P2 := Ext.cell ((HE2.out.cell (World.block_lt_of_cell? _ _ p2)).trans p2)
                have P3 := Ext.cell ((HE2.out.cell (World.block_lt_of_cell? _ _ p3)).trans p3)
                have X0 := Ext.cell ((HE2.out.cell (World.block_lt_of_cell? _ _ hc0)).trans hc0)
                have X1 := Ext.cell ((HE2.out.cell (World.block_lt_of_cell? _ _ hc1)).trans hc1)
                have X2 := Ext.cell ((HE2.out.cell (World.block_lt_of_cell? _ _ hc2)).trans hc2)
                have X3 := Ext.cell ((HE2.out.cell (World.block_lt_of_cell? _ _ hc3)).trans hc3)
                have X4 := Ext.cell ((HE2.out.cell (World.block_lt_of_cell? _ _ hc4)).trans hc4)
                have Y0 := Ext.cell ((HE2.out.cell (World.block_lt_of_cell? _ _ hd0)).trans hd0)
                have Y1 := Ext.cell ((HE2.out.cell (World.block_lt_of_cell? _ _ hd1)).trans hd1)
                have Y2 := Ext.cell ((HE2.out.cell (World.block_lt_of_cell? _ _ hd2)).trans hd2)
                have Y3 := Ext.cell ((HE2.out.cell (World.block_lt_of_cell? _ _ hd3)).trans hd3)
                have Y4 := Ext.cell ((HE2.out.cell (World.block_lt_of_cell? _ _ hd4)).trans hd4)
                have c3 := fun z : Ext w2 => verSameOne_any x y _ _ _ _ _ _ z.w ((HRX.out.below HE2.out).below z.below) ((HRY.out.below HE2.out).below z.below)
                clear hc0 hc1 hc2 hc3 hc4 hd0 hd1 hd2 hd3 hd4 p2 p3
                cases tw
                · cases hv : vEq x y
                  · simp only [hv] at c3
                    have C3 := Lib.hid c3
                    rw [hv] at HS
                    clear c3 hv
                    go_wp2_with fail
                    refine wp_region_ext (by kernel_rfl) (by kernel_rfl) ?_
                    repeat (go_big_quiet_step ((go_at_call 35; exact Calls.ext_of (C3.out _))))
                    refine wpQuiet_nil ?_
                    intro w3 hw3
                    have HE3 := Lib.hid (ext_end hw3)
                    have HM3 := Lib.hid (HM2.out.move HE3.out)
                    clear hw3 P2 P3 X0 X1 X2 X3 X4 Y0 Y1 Y2 Y3 Y4
                    go_wp2
                    go_roundw
                    case rel => exact ⟨true, i + 1, k, Ao, no, co, rows, rfl, by go_num, by go_num, by omega, by omega, HM3, HS⟩
                    case measure => simp [intOf]; omega
                  · simp only [hv] at c3
                    have C3 := Lib.hid c3
                    rw [hv] at HS
                    clear c3 hv
                    go_wp2_with fail
                    refine wp_region_ext (by kernel_rfl) (by kernel_rfl) ?_
                    repeat (go_big_quiet_step ((go_at_call 35; exact Calls.ext_of (C3.out _))))
                    refine wpQuiet_nil ?_
                    intro w3 hw3
                    have HE3 := Lib.hid (ext_end hw3)
                    have HM3 := Lib.hid (HM2.out.move HE3.out)
                    clear hw3 P2 P3 X0 X1 X2 X3 X4 Y0 Y1 Y2 Y3 Y4
                    go_wp2
                    go_roundw
                    case rel => exact ⟨false, i + 1, k, Ao, no, co, rows, rfl, by go_num, by go_num, by omega, by omega, HM3, HS⟩
                    case measure => simp [intOf]; omega
                · have C3 := HS
                  clear c3
                  go_wp2_with fail
                  refine wp_region_ext (by kernel_rfl) (by kernel_rfl) ?_
                  repeat (go_big_quiet_step ((go_at_call 35; exact Calls.ext_of (C3.out _))))
                  refine wpQuiet_nil ?_
                  intro w3 hw3
                  have HE3 := Lib.hid (ext_end hw3)
                  have HM3 := Lib.hid (HM2.out.move HE3.out)
                  clear hw3 P2 P3 X0 X1 X2 X3 X4 Y0 Y1 Y2 Y3 Y4
                  go_wp2
                  go_roundw
                  case rel => exact ⟨true, i + 1, k, Ao, no, co, rows, rfl, by go_num, by go_num, by omega, by omega, HM3, HS⟩
                  case measure => simp [intOf]; omega
            · simp only [hd] at c2
              have C2 := Lib.hid c2
              have HS := Lib.hid (HI.out.stepA HX.out HY.out hd)
              clear c2 hd
              go_wp2_with fail
              refine wp_region_ext (by kernel_rfl) (by kernel_rfl) ?_
              repeat (go_big_quiet_step ((go_at_call 32; exact Calls.ext_of (C2.out _))))
              refine wpQuiet_nil ?_
              intro w1 hw1
              have HE1 := Lib.hid (ext_end hw1)
              have HM1 := Lib.hid (HM.out.move HE1.out)
              have p2 := cell_of_one HM1.out.b2
              have p3 := cell_of_one HM1.out.b3
              clear hw1 f2 f3 G0 G1 G2 G3 F2 F3
              obtain ⟨b', off', v', Ap', np', cp', e', hx', hr, hc0, hc1, hc2, hc3, hc4⟩ := (H1.out.below HM1.out.below).at_ (k := i) (by omega)
              injection e' with e'
              injection e' with e1 e2
              subst e1 e2
              rw [HX.out] at hx'
              obtain rfl := Option.some.inj hx'
              have HK := Lib.hid (keep_any w w1 _ _ _ _ _ _ c1 _ c2 a b Ao no co rows x _ _ _ HM1.out (H1.out.below HM1.out.below) (H2.out.below HM1.out.below) hr hn1 hn2 (by omega))
              clear hx' hr
              go_wp2_with (first | (go_at_call 37; refine HK.out.mono ?_; rintro e w3 ⟨rfl, Ao2, no2, co2, rows2, HM2, hrows2⟩) | fail)
              go_roundw
              case rel => exact ⟨tw, i + 1, k, Ao2, no2, co2, rows2, rfl, by go_num, by go_num, by omega, by omega, HM2, by rw [hrows2]; exact HS.out⟩
              case measure => simp [intOf]; omega
          · obtain rfl : k = n2 := by omega
            have C2 := HI
            have G2 := G0
            have G3 := G0
            have HS := Lib.hid (HI.out.lastA HX.out (by have := HL2.out; omega))
            go_wp2_with fail
            refine wp_region_ext (by kernel_rfl) (by kernel_rfl) ?_
            repeat (go_big_quiet_step ((go_at_call 32; exact Calls.ext_of (C2.out _))))
            refine wpQuiet_nil ?_
            intro w1 hw1
            have HE1 := Lib.hid (ext_end hw1)
            have HM1 := Lib.hid (HM.out.move HE1.out)
            have p2 := cell_of_one HM1.out.b2
            have p3 := cell_of_one HM1.out.b3
            clear hw1 f2 f3 G0 G1 G2 G3 F2 F3
            obtain ⟨b', off', v', Ap', np', cp', e', hx', hr, hc0, hc1, hc2, hc3, hc4⟩ := (H1.out.below HM1.out.below).at_ (k := i) (by omega)
            injection e' with e'
            injection e' with e1 e2
            subst e1 e2
            rw [HX.out] at hx'
            obtain rfl := Option.some.inj hx'
            have HK := Lib.hid (keep_any w w1 _ _ _ _ _ _ c1 _ c2 a b Ao no co rows x _ _ _ HM1.out (H1.out.below HM1.out.below) (H2.out.below HM1.out.below) hr hn1 hn2 (by omega))
            clear hx' hr
            go_wp2_with (first | (go_at_call 37; refine HK.out.mono ?_; rintro e w3 ⟨rfl, Ao2, no2, co2, rows2, HM2, hrows2⟩) | fail)
            go_roundw
            case rel => exact ⟨tw, i + 1, k, Ao2, no2, co2, rows2, rfl, by go_num, by go_num, by omega, by omega, HM2, by rw [hrows2]; exact HS.out⟩
            case measure => simp [intOf]; omega
        · obtain rfl : i = n1 := by omega
          have F2 := Ext.cell f2
          have F3 := Ext.cell f3
          rcases Nat.lt_or_ge k n2 with hlt2 | hge2
          · have j3 : (k : Int) < (n2 : Int) := by omega
            have j4 : ¬ ((k : Int) = (n2 : Int)) := by omega
            have j5 : ((k : Int) == (n2 : Int)) = false := by simpa using j4
            obtain ⟨b2, off2, y, Ap2, np2, cp2, e2, hy, hr2, hd0, hd1, hd2, hd3, hd4⟩ := (H2.out.below HM.out.below).at_ hlt2
            subst e2
            have HY := Lib.hid hy
            have HS := Lib.hid (HI.out.lastB HY.out (by have := HL1.out; omega))
            have C2 := HI
            have G0 := HI
            have G1 := HI
            have G2 := HI
            have G3 := HI
            clear hy hr2 hd0 hd1 hd2 hd3 hd4
            go_wp2_with fail
            refine wp_region_ext (by kernel_rfl) (by kernel_rfl) ?_
            repeat (go_big_quiet_step ((go_at_call 32; exact Calls.ext_of (C2.out _))))
            refine wpQuiet_nil ?_
            intro w1 hw1
            have HE1 := Lib.hid (ext_end hw1)
            have HM1 := Lib.hid (HM.out.move HE1.out)
            have p2 := cell_of_one HM1.out.b2
            have p3 := cell_of_one HM1.out.b3
            clear hw1 f2 f3 G0 G1 G2 G3 F2 F3
            have P2 := Ext.cell p2
            have P3 := Ext.cell p3
            have G0 := P2
            have G1 := P2
            have G2 := P2
            have G3 := P2
            have q := P2
            go_wp2_with fail
            refine wp_region_ext (by kernel_rfl) (by kernel_rfl) ?_
            repeat (go_big_quiet_step (fail))
            refine wpQuiet_nil ?_
            intro w2 hw2
            have HE2 := Lib.hid (ext_end hw2)
            have HM2 := Lib.hid (HM1.out.move HE2.out)
            clear hw2 P2 P3 G0 G1 G2 G3 q
            have p2 := (HE2.out.cell (World.block_lt_of_cell? _ _ p2)).trans p2
            have p3 := (HE2.out.cell (World.block_lt_of_cell? _ _ p3)).trans p3
            obtain ⟨b', off', v', Ay', ny', cy', e', hy', hry, hd0, hd1, hd2, hd3, hd4⟩ := (H2.out.below HM2.out.below).at_ (k := k) (by omega)
            injection e' with e'
            injection e' with e1 e2
            subst e1 e2
            rw [HY.out] at hy'
            obtain rfl := Option.some.inj hy'
            have HK := Lib.hid (keep_any w w2 _ _ _ _ _ _ c1 _ c2 a b Ao no co rows y _ _ _ HM2.out (H1.out.below HM2.out.below) (H2.out.below HM2.out.below) hry hn1 hn2 (by omega))
            clear hry hy'
            go_wp2_with (first | (go_at_call 37; refine HK.out.mono ?_; rintro e w3 ⟨rfl, Ao2, no2, co2, rows2, HM3, hrows2⟩) | fail)
            go_roundw
            case rel => exact ⟨tw, i, k + 1, Ao2, no2, co2, rows2, rfl, by go_num, by go_num, by omega, by omega, HM3, by rw [hrows2]; exact HS.out⟩
            case measure => simp [intOf]; omega
          · obtain rfl : k = n2 := by omega
            obtain ⟨x1, x2⟩ := HI.out.end_ (by have := HL1.out; omega) (by have := HL2.out; omega)
            have f6 := cell_of_one HM.out.b6
            have hl := HM.out.own.len
            cases ht : mrgT a b
            · rw [ht] at x2
              subst x2
              by_cases h5 : 512 < no
              · have HY := Lib.hid (mrg_long HRA.out HRB.out ht (by rw [← x1, List.length_map]; omega))
                clear F2 F3 x1 ht
                go_wp2
                go_ret2
                exact NewVers.nil2 HM.out.below HY.out
              · have HY := Lib.hid (mrg_ok HRA.out HRB.out ht (by rw [← x1, List.length_map]; omega))
                have HX1 := Lib.hid x1
                clear F2 F3 x1 ht
                go_wp2
                go_ret2
                exact NewVers.of HM.out.own HM.out.below HY.out.1 (HX1.out.trans HY.out.2.symm)
            · rw [ht] at x2
              subst x2
              have HY := Lib.hid (mrg_twin HRA.out HRB.out ht)
              clear F2 F3 x1 ht
              go_wp2
              go_ret2
              exact NewVers.nil2 HM.out.below HY.out
end Go.Proofs.Ytlcfknpmnoghbaa
