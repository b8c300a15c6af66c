/-
  firth/code's reader: a version.
  firth/code.take at versions; the reader's record.
  firth/code's reader: a record.
-/
import Derived.Test.YtilagblpamhmkaaCodeTakeNums
import Derived.Test.YtilagblpamhmkaaME
namespace Go.Proofs.Ytilagblpamhmkaa
open Go.RowKit
set_option linter.unusedVariables false

theorem wf_i64 {x : Int} (h1 : -9223372036854775808 ≤ x) (h2 : x ≤ 9223372036854775807) : (Lit.int .i64 x).wf = true := by
  show (decide (IntKind.i64.min ≤ x) && decide (x ≤ IntKind.i64.max)) = true
  rw [Bool.and_eq_true]
  exact ⟨decide_eq_true h1, decide_eq_true h2⟩
/-- A version's block. -/
def VBox (w : World) (b : Nat) (s n : Int) (p : Value) (g : Bool) (t : ByteArray) : Prop := w.heap[b]? = some (.cells #[.int .i64 s, .int .i64 n, p, .bool g, .string t] 42 (0, 0))
section
variable {w w' : World} {b r : Nat} {s n : Int} {p : Value} {g : Bool} {t : ByteArray}
theorem VBox.lt (h : VBox w b s n p g t) : b < w.heap.size := lt_of_block h
theorem VBox.c (h : VBox w b s n p g t) : w.cell? ⟨b, 0, none⟩ = some (.int .i64 s) ∧ w.cell? ⟨b, 1, none⟩ = some (.int .i64 n) ∧ w.cell? ⟨b, 2, none⟩ = some p ∧ w.cell? ⟨b, 3, none⟩ = some (.bool g) ∧ w.cell? ⟨b, 4, none⟩ = some (.string t) :=
  ⟨by rw [cell_of_row w b 0 _ _ (0, 0) h]; rfl, by rw [cell_of_row w b 1 _ _ (0, 0) h]; rfl, by rw [cell_of_row w b 2 _ _ (0, 0) h]; rfl, by rw [cell_of_row w b 3 _ _ (0, 0) h]; rfl, by rw [cell_of_row w b 4 _ _ (0, 0) h]; rfl⟩
theorem VBox.z (h : VBox w b s n p g t) : w.frozen? ⟨b, 0, none⟩ = false ∧ w.frozen? ⟨b, 1, none⟩ = false ∧ w.frozen? ⟨b, 2, none⟩ = false ∧ w.frozen? ⟨b, 3, none⟩ = false ∧ w.frozen? ⟨b, 4, none⟩ = false :=
  ⟨frozen_of_row w b 0 _ _ h, frozen_of_row w b 1 _ _ h, frozen_of_row w b 2 _ _ h, frozen_of_row w b 3 _ _ h, frozen_of_row w b 4 _ _ h⟩
theorem VBox.new (w : World) (s n : Int) (p : Value) (g : Bool) (t : ByteArray) : VBox (w.alloc (.cells #[.int .i64 s, .int .i64 n, p, .bool g, .string t] 42)) w.heap.size s n p g t := heap_alloc_new w _
theorem VBox.fr (h : VBox w b s n p g t) (f : Fr (fun i => i = r) w w') (hb : b ≠ r) : VBox w' b s n p g t := (f.block b h.lt hb).trans h
theorem VBox.alloc (h : VBox w b s n p g t) (o : Obj) : VBox (w.alloc o) b s n p g t := (Below.heap_alloc w o b h.lt).trans h
theorem VBox.other (h : VBox w b s n p g t) {b' j : Nat} (hb : b ≠ b') (u : Value) : VBox (w.setCell ⟨b', j, none⟩ u) b s n p g t := (Below.heap_setCell w ⟨b', j, none⟩ u b hb).trans h
theorem VBox.set1 (h : VBox w b s n p g t) (x : Int) : VBox (w.setCell ⟨b, 1, none⟩ (.int .i64 x)) b s x p g t := by unfold VBox; rw [heap_setCell_same w b 1 _ _ _ h]; rfl
theorem VBox.set2 (h : VBox w b s n p g t) (x : Value) : VBox (w.setCell ⟨b, 2, none⟩ x) b s n x g t := by unfold VBox; rw [heap_setCell_same w b 2 _ _ _ h]; rfl
theorem VBox.set3 (h : VBox w b s n p g t) (x : Bool) : VBox (w.setCell ⟨b, 3, none⟩ (.bool x)) b s n p x t := by unfold VBox; rw [heap_setCell_same w b 3 _ _ _ h]; rfl
theorem VBox.set4 (h : VBox w b s n p g t) (x : ByteArray) : VBox (w.setCell ⟨b, 4, none⟩ (.string x)) b s n p g x := by unfold VBox; rw [heap_setCell_same w b 4 _ _ _ h]; rfl
theorem VBox.set0 (h : VBox w b s n p g t) (x : Int) : VBox (w.setCell ⟨b, 0, none⟩ (.int .i64 x)) b x n p g t := by unfold VBox; rw [heap_setCell_same w b 0 _ _ _ h]; rfl
end
theorem Fr.put {w w1 : World} {r b j : Nat} (f : Fr (fun i => i = r) w w1) (hb : w.heap.size ≤ b) (u : Value) : Fr (fun i => i = r) w (w1.setCell ⟨b, j, none⟩ u) :=
  f.trans (Fr.set w1 ⟨b, j, none⟩ u) fun i hi => .inr (by have hi2 : i = b := hi; omega)
theorem Fr.on {w w1 w2 : World} {r : Nat} (f : Fr (fun i => i = r) w w1) (g : Fr (fun i => i = r) w1 w2) : Fr (fun i => i = r) w w2 := f.trans g fun _ h => .inl h
/-- A version that was read: its Past's row is the call's own. -/
def VerV (B : Nat) (w : World) (v : Vr) (x : Value) : Prop := ∃ Ap np cp, x = .agg #[.int .i64 v.s, .int .i64 v.n, .slice Ap np cp, .bool v.gone, .string v.val] ∧ w.ownsRow B 53 3 (.slice Ap np cp) np (spV v.past) ∧ VFix v np cp
theorem VerV.of {B : Nat} {w : World} {v : Vr} {Ap : Option Addr} {np cp : Nat} (h : w.ownsRow B 53 3 (.slice Ap np cp) np (spV v.past)) (f : VFix v np cp) : VerV B w v (.agg #[.int .i64 v.s, .int .i64 v.n, .slice Ap np cp, .bool v.gone, .string v.val]) := ⟨Ap, np, cp, rfl, h, f⟩
theorem spans_wf {L : List UInt8} {a a1 : Nat} {l : List Sp} (h : pTake (gSpan okP) L a = some (l, a1)) : (∀ x ∈ l, wfSp x) ∧ l.length ≤ L.length := by
  obtain ⟨n, b, h1, h2, h3, h4⟩ := pTake_some h
  refine ⟨pRep_all (fun L a x a1 hx => ?_) n h3, by omega⟩
  obtain ⟨s, f, m, b1, b2, e1, e2, e3, _, rfl⟩ := gSpan_some hx
  have l1 := pNum_le e1
  have l2 := pNum_le e2
  exact ⟨wf_i64 (by simp only; omega) (by simp only; omega), wf_i64 (by simp only; omega) (by simp only; omega), wf_i64 (by simp only [wrap64]; omega) (by simp only [wrap64]; omega)⟩
theorem text_size {L : List UInt8} {a a1 : Nat} {t : ByteArray} (h : gText L a = some (t, a1)) : t.size ≤ L.length := by
  obtain ⟨m, b, h1, h2⟩ := bindP_some h
  split at h2
  · cases h2
  · simp only [Option.some.injEq, Prod.mk.injEq] at h2
    obtain ⟨rfl, _⟩ := h2
    show ((L.drop b).take m).toArray.size ≤ _
    rw [List.size_toArray, List.length_take, List.length_drop]
    omega
theorem int_range {L : List UInt8} {a a1 : Nat} {x : Int} (h : gInt L a = some (x, a1)) : 0 ≤ x ∧ x ≤ 9223372036854775807 := by
  obtain ⟨k, rfl, hk⟩ := gInt_some h
  have := pNum_le hk
  omega
set_option maxHeartbeats 4000000 in
set_option maxRecDepth 100000 in
theorem rver_any {w : World} {r : Nat} {A : Option Addr} {n c : Nat} {L : List UInt8} {a : Nat} (h : RSt w r A n c L a) (h9 : n ≤ 4000000000000) :
    Calls Try.prog 77 #[.pointer (some ⟨r, 0, none⟩)] w (GAns (VerV w.heap.size) w r A n c L (gVer okP L a)) := by
  have hmf : ∀ (fn : Fn) (first cap : Array Value) (w : World), (Instr.makeFunc fn first cap).run Try.prog w = .ok (.func fn first cap) w := fun _ _ _ _ => rfl
  have bA : Below w.heap.size w (w.alloc (.cells #[.int .i64 0, .int .i64 0, .slice none 0 0, .bool false, .string ⟨#[]⟩] 42)) := (Below.refl _ _).alloc (Nat.le_refl _) _
  have FA := Lib.hid (Fr.of_below bA (fp := fun i => i = r))
  have hrl := h.lt
  have hLn := Lib.hid h.len
  have HB := Lib.hid h.blk
  have X0 := Lib.hid (VBox.new w 0 0 (.slice none 0 0) false ⟨#[]⟩)
  have hA := Lib.hid (fun (b : Nat) (hb : w.heap.size ≤ b) (b' off : Nat) (s' : Option Nat) (hn : 0 < n) (e : A = some ⟨b', off, s'⟩) => (show b' ≠ b by have := HB.out b' off s' hn e; omega))
  cases h1 : gInt L a with
  | none =>
    have C1 := Lib.hid (rint_no (h.move bA) (gInt_none h1))
    have HN := Lib.hid (show gVer okP L a = none from bindP_no h1)
    clear h h1 bA
    go_enter Try.func77, Try.ntmps77
    go_wp2_with fail
    refine C1.out.mono ?_
    rintro e w1 ⟨rfl, f1⟩
    exact ⟨rfl, GAns.no HN.out (FA.out.on f1)⟩
  | some p1 =>
    obtain ⟨s, a1⟩ := p1
    have hs := int_range h1
    have C1 := Lib.hid (rint_g (h.move bA) h1)
    have HN1 := Lib.hid (show gVer okP L a = _ from bindP_yes h1)
    clear h h1 bA
    go_enter Try.func77, Try.ntmps77
    go_wp2_with fail
    refine C1.out.mono ?_
    rintro e w1 ⟨rfl, h1, f1⟩
    have F1 := Lib.hid (FA.out.on f1)
    have X1 := Lib.hid (X0.out.fr f1 (by omega))
    have hsz1 := F1.out.size
    have bB : Below w1.heap.size w1 (w1.alloc (.cells #[.int .i64 s, .int .i64 0, .slice none 0 0, .bool false, .string ⟨#[]⟩] 42)) := (Below.refl _ _).alloc (Nat.le_refl _) _
    have hw1 := X1.out.lt
    have F2 := Lib.hid (F1.out.on (Fr.of_below bB))
    have X2 := Lib.hid (X1.out.alloc (.cells #[.int .i64 s, .int .i64 0, .slice none 0 0, .bool false, .string ⟨#[]⟩] 42))
    have Y2 := Lib.hid (VBox.new w1 s 0 (.slice none 0 0) false ⟨#[]⟩)
    have H2 := Lib.hid (h1.move bB)
    have hr1 := h1.lt
    clear h1 f1 C1 X0 bB
    cases h2 : gInt L a1 with
    | none =>
      have HN := Lib.hid (HN1.out.trans (bindP_no h2))
      have C9 := Lib.hid (rnum_no H2.out (gInt_none h2))
      go_wp2_with fail
      refine C9.out.mono ?_
      rintro e w9 ⟨rfl, f9⟩
      exact ⟨rfl, GAns.no HN.out (F2.out.on f9)⟩
    | some p2 =>
      obtain ⟨m, a2⟩ := p2
      have hm := int_range h2
      have C2 := Lib.hid (rnum_g H2.out h2)
      have HN2 := Lib.hid (HN1.out.trans (bindP_yes h2))
      clear h2
      go_wp2_with fail
      refine C2.out.mono ?_
      rintro e w2 ⟨rfl, h2, f2⟩
      have F3 := Lib.hid (F2.out.on f2)
      have X3 := Lib.hid (X2.out.fr f2 (by omega))
      have Y3 := Lib.hid (Y2.out.fr f2 (by omega))
      have H3 := Lib.hid h2
      obtain ⟨y0, y1, y2, y3, y4⟩ := Y3.out.c
      obtain ⟨u0, u1, u2, u3, u4⟩ := Y3.out.z
      clear h2 f2 C2 X2 Y2 H2 HN1
      go_wp2_with fail
      clear y0 y1 y2 y3 y4 u0 u1 u2 u3 u4
      have F4 := Lib.hid (F3.out.put (b := w1.heap.size) (j := 1) (by omega) (.int .i64 m))
      have X4 := Lib.hid (X3.out.other (b' := w1.heap.size) (j := 1) (by omega) (.int .i64 m))
      have Y4 := Lib.hid (Y3.out.set1 m)
      have H4 := Lib.hid (H3.out.setOther (b := w1.heap.size) (j := 1) (by omega) (hA.out _ (by omega)) (.int .i64 m))
      generalize w2.setCell ⟨w1.heap.size, 1, none⟩ (.int .i64 m) = wc at *
      have hszc := Y4.out.lt
      clear F3 X3 Y3 H3
      cases h3 : pTake (gSpan okP) L a2 with
      | none =>
        have HN := Lib.hid (HN2.out.trans (bindP_no h3))
        have C3 := take_spans H4.out h9
        rw [h3] at C3
        have C9 := Lib.hid C3
        go_wp2_with fail
        refine C9.out.mono ?_
        rintro e w9 ⟨rfl, f9⟩
        exact ⟨rfl, GAns.no HN.out (F4.out.on f9)⟩
      | some p3 =>
        obtain ⟨past, a3⟩ := p3
        have c3 := take_spans H4.out h9
        rw [h3] at c3
        have C3 := Lib.hid c3
        have HS := Lib.hid (spans_wf h3)
        have HN3 := Lib.hid (HN2.out.trans (bindP_yes h3))
        clear h3 c3
        go_wp2_with fail
        refine C3.out.mono ?_
        rintro e w3 ⟨pv, rfl, hpv, h3, f3⟩
        obtain ⟨Ap, cp, rfl, hcp, -⟩ := own_slice hpv
        have F5 := Lib.hid (F4.out.on f3)
        have X5 := Lib.hid (X4.out.fr f3 (by omega))
        have Y5 := Lib.hid (Y4.out.fr f3 (by omega))
        have H5 := Lib.hid h3
        have HP := Lib.hid hpv
        obtain ⟨y0, y1, y2, y3, y4⟩ := Y5.out.c
        obtain ⟨u0, u1, u2, u3, u4⟩ := Y5.out.z
        clear h3 f3 C3 X4 Y4 H4 hpv HN2
        go_wp2_with fail
        clear y0 y1 y2 y3 y4 u0 u1 u2 u3 u4
        have HPB := Lib.hid (fun (g : Nat) (e : (Value.slice Ap past.length cp).ownBlock = some g) => (HP.out.lt g e).1)
        have P5 := ownsRow_setCell_other (own_lower HP.out (show w.heap.size ≤ wc.heap.size by omega)) (a := ⟨w1.heap.size, 2, none⟩) (fun e => by have := HPB.out _ e; simp at this; omega) (.slice Ap past.length cp)
        have P6 := Lib.hid P5
        have F6 := Lib.hid (F5.out.put (b := w1.heap.size) (j := 2) (by omega) (.slice Ap past.length cp))
        have X6 := Lib.hid (X5.out.other (b' := w1.heap.size) (j := 2) (by omega) (.slice Ap past.length cp))
        have Y6 := Lib.hid (Y5.out.set2 (.slice Ap past.length cp))
        have H6 := Lib.hid (H5.out.setOther (b := w1.heap.size) (j := 2) (by omega) (hA.out _ (by omega)) (.slice Ap past.length cp))
        generalize w3.setCell ⟨w1.heap.size, 2, none⟩ (.slice Ap past.length cp) = wd at *
        have hszd := Y6.out.lt
        clear F5 X5 Y5 H5 HP P5
        have hpl := HS.out.2
        have hLn2 := hLn.out
        cases h4 : pNum L a3 with
        | none =>
          have HN := Lib.hid (HN3.out.trans (bindP_no h4))
          have C9 := Lib.hid (rnum_no H6.out h4)
          go_wp2_with fail
          refine C9.out.mono ?_
          rintro e w9 ⟨rfl, f9⟩
          exact ⟨rfl, GAns.no HN.out (F6.out.on f9)⟩
        | some p4 =>
          obtain ⟨k, a4⟩ := p4
          have C4 := Lib.hid (rnum_yes H6.out h4)
          have HN4 := Lib.hid (HN3.out.trans (bindP_yes h4))
          have hk := (pNum_le h4).2.2.2
          clear h4
          go_wp2_with fail
          refine C4.out.mono ?_
          rintro e w4 ⟨rfl, h4, f4⟩
          have P7 := Lib.hid (own_fr P6.out hrl f4)
          have F7 := Lib.hid (F6.out.on f4)
          have X7 := Lib.hid (X6.out.fr f4 (by omega))
          have Y7 := Lib.hid (Y6.out.fr f4 (by omega))
          have H7 := Lib.hid h4
          clear h4 f4 C4 F6 X6 Y6 H6 P6 HN3
          by_cases hk0 : k = 0
          · subst hk0
            have HN5 := Lib.hid (HN4.out.trans (if_pos rfl))
            cases h5 : gText L a4 with
            | none =>
              have HN := Lib.hid (HN5.out.trans (bindP_no h5))
              have C9 := Lib.hid (rtext_no H7.out h5)
              go_wp2_with fail
              refine C9.out.mono ?_
              rintro e w9 ⟨rfl, f9⟩
              exact ⟨rfl, GAns.no HN.out (F7.out.on f9)⟩
            | some p5 =>
              obtain ⟨t, a5⟩ := p5
              have C5 := Lib.hid (rtext_yes H7.out h5)
              have HN := Lib.hid (HN5.out.trans (bindP_yes h5))
              have ht := text_size h5
              have HFix := Lib.hid (show VFix ⟨s, m, past, false, t⟩ past.length cp from ⟨hcp, by omega, ⟨wf_i64 (by simp only; omega) (by simp only; omega), wf_i64 (by simp only; omega) (by simp only; omega)⟩, HS.out.1, by simp only; omega⟩)
              clear h5
              go_wp2_with fail
              refine C5.out.mono ?_
              rintro e w5 ⟨rfl, h5, f5⟩
              have P8 := Lib.hid (own_fr P7.out hrl f5)
              have F8 := Lib.hid (F7.out.on f5)
              have X8 := Lib.hid (X7.out.fr f5 (by omega))
              have Y8 := Lib.hid (Y7.out.fr f5 (by omega))
              have H8 := Lib.hid h5
              obtain ⟨y0, y1, y2, y3, y4⟩ := Y8.out.c
              obtain ⟨u0, u1, u2, u3, u4⟩ := Y8.out.z
              clear h5 f5 C5 F7 X7 Y7 H7 P7
              have FE := Lib.hid (F8.out.put (b := w1.heap.size) (j := 4) (by omega) (.string t))
              have XE := Lib.hid (X8.out.other (b' := w1.heap.size) (j := 4) (by omega) (.string t))
              have YE := Lib.hid (Y8.out.set4 t)
              have HE := Lib.hid (H8.out.setOther (b := w1.heap.size) (j := 4) (by omega) (hA.out _ (by omega)) (.string t))
              have PE := Lib.hid (ownsRow_setCell_other P8.out (a := ⟨w1.heap.size, 4, none⟩) (fun e => by have := HPB.out _ e; simp at this; omega) (.string t))
              obtain ⟨v0, v1, v2, v3, v4⟩ := X8.out.c
              obtain ⟨z0, z1, z2, z3, z4⟩ := X8.out.z
              have lbw := hA.out w.heap.size (Nat.le_refl _)
              have XF := ((((XE.out.set0 s).set1 m).set2 (Value.slice Ap past.length cp)).set3 false).set4 t
              obtain ⟨q0, q1, q2, q3, q4⟩ := XF.c
              have RF := ((((HE.out.setOther (b := w.heap.size) (j := 0) (by omega) lbw (.int .i64 s)).setOther (b := w.heap.size) (j := 1) (by omega) lbw (.int .i64 m)).setOther (b := w.heap.size) (j := 2) (by omega) lbw (Value.slice Ap past.length cp)).setOther (b := w.heap.size) (j := 3) (by omega) lbw (.bool false)).setOther (b := w.heap.size) (j := 4) (by omega) lbw (.string t)
              have FF := ((((FE.out.put (b := w.heap.size) (j := 0) (by omega) (.int .i64 s)).put (b := w.heap.size) (j := 1) (by omega) (.int .i64 m)).put (b := w.heap.size) (j := 2) (by omega) (Value.slice Ap past.length cp)).put (b := w.heap.size) (j := 3) (by omega) (.bool false)).put (b := w.heap.size) (j := 4) (by omega) (.string t)
              have hne : ((Value.slice Ap past.length cp)).ownBlock ≠ some w.heap.size := fun e => by have := HPB.out _ e; omega
              have OF := ownsRow_setCell_other (ownsRow_setCell_other (ownsRow_setCell_other (ownsRow_setCell_other (ownsRow_setCell_other PE.out (a := ⟨w.heap.size, 0, none⟩) hne (.int .i64 s)) (a := ⟨w.heap.size, 1, none⟩) hne (.int .i64 m)) (a := ⟨w.heap.size, 2, none⟩) hne (Value.slice Ap past.length cp)) (a := ⟨w.heap.size, 3, none⟩) hne (.bool false)) (a := ⟨w.heap.size, 4, none⟩) hne (.string t)
              have HQ := Lib.hid (And.intro q0 (And.intro q1 (And.intro q2 (And.intro q3 q4))))
              have HF := Lib.hid (And.intro RF (And.intro FF OF))
              clear XF RF FF OF q0 q1 q2 q3 q4 lbw
              go_wp2
              obtain ⟨q0, q1, q2, q3, q4⟩ := HQ.out
              refine bodyPost_ret (v := .agg #[.int .i64 s, .int .i64 m, (Value.slice Ap past.length cp), .bool false, .string t]) ?_ rfl (GAns.yes HN.out (VerV.of HF.out.2.2 HFix.out) HF.out.1 HF.out.2.1)
              simp [results, Try.results77, go_sem, q0, q1, q2, q3, q4]
          · have HN5 := Lib.hid (HN4.out.trans (if_neg hk0))
            have hk0' : ((k : Int) == 0) = false := by rw [beq_eq_false_iff_ne]; omega
            by_cases hk1 : k = 1
            · subst hk1
              have HN := Lib.hid (show gVer okP L a = some (⟨s, m, past, true, ⟨#[]⟩⟩, a4) from HN5.out.trans (if_pos rfl))
              have HFix := Lib.hid (show VFix ⟨s, m, past, true, ⟨#[]⟩⟩ past.length cp from ⟨hcp, by omega, ⟨wf_i64 (by simp only; omega) (by simp only; omega), wf_i64 (by simp only; omega) (by simp only; omega)⟩, HS.out.1, Nat.zero_le _⟩)
              obtain ⟨y0, y1, y2, y3, y4⟩ := Y7.out.c
              obtain ⟨u0, u1, u2, u3, u4⟩ := Y7.out.z
              have FE := Lib.hid (F7.out.put (b := w1.heap.size) (j := 3) (by omega) (.bool true))
              have XE := Lib.hid (X7.out.other (b' := w1.heap.size) (j := 3) (by omega) (.bool true))
              have YE := Lib.hid (Y7.out.set3 true)
              have HE := Lib.hid (H7.out.setOther (b := w1.heap.size) (j := 3) (by omega) (hA.out _ (by omega)) (.bool true))
              have PE := Lib.hid (ownsRow_setCell_other P7.out (a := ⟨w1.heap.size, 3, none⟩) (fun e => by have := HPB.out _ e; simp at this; omega) (.bool true))
              obtain ⟨v0, v1, v2, v3, v4⟩ := X7.out.c
              obtain ⟨z0, z1, z2, z3, z4⟩ := X7.out.z
              have lbw := hA.out w.heap.size (Nat.le_refl _)
              have XF := ((((XE.out.set0 s).set1 m).set2 (Value.slice Ap past.length cp)).set3 true).set4 (⟨#[]⟩ : ByteArray)
              obtain ⟨q0, q1, q2, q3, q4⟩ := XF.c
              have RF := ((((HE.out.setOther (b := w.heap.size) (j := 0) (by omega) lbw (.int .i64 s)).setOther (b := w.heap.size) (j := 1) (by omega) lbw (.int .i64 m)).setOther (b := w.heap.size) (j := 2) (by omega) lbw (Value.slice Ap past.length cp)).setOther (b := w.heap.size) (j := 3) (by omega) lbw (.bool true)).setOther (b := w.heap.size) (j := 4) (by omega) lbw (.string (⟨#[]⟩ : ByteArray))
              have FF := ((((FE.out.put (b := w.heap.size) (j := 0) (by omega) (.int .i64 s)).put (b := w.heap.size) (j := 1) (by omega) (.int .i64 m)).put (b := w.heap.size) (j := 2) (by omega) (Value.slice Ap past.length cp)).put (b := w.heap.size) (j := 3) (by omega) (.bool true)).put (b := w.heap.size) (j := 4) (by omega) (.string (⟨#[]⟩ : ByteArray))
              have hne : ((Value.slice Ap past.length cp)).ownBlock ≠ some w.heap.size := fun e => by have := HPB.out _ e; omega
              have OF := ownsRow_setCell_other (ownsRow_setCell_other (ownsRow_setCell_other (ownsRow_setCell_other (ownsRow_setCell_other PE.out (a := ⟨w.heap.size, 0, none⟩) hne (.int .i64 s)) (a := ⟨w.heap.size, 1, none⟩) hne (.int .i64 m)) (a := ⟨w.heap.size, 2, none⟩) hne (Value.slice Ap past.length cp)) (a := ⟨w.heap.size, 3, none⟩) hne (.bool true)) (a := ⟨w.heap.size, 4, none⟩) hne (.string (⟨#[]⟩ : ByteArray))
              have HQ := Lib.hid (And.intro q0 (And.intro q1 (And.intro q2 (And.intro q3 q4))))
              have HF := Lib.hid (And.intro RF (And.intro FF OF))
              clear XF RF FF OF q0 q1 q2 q3 q4 lbw
              go_wp2
              obtain ⟨q0, q1, q2, q3, q4⟩ := HQ.out
              refine bodyPost_ret (v := .agg #[.int .i64 s, .int .i64 m, (Value.slice Ap past.length cp), .bool true, .string (⟨#[]⟩ : ByteArray)]) ?_ rfl (GAns.yes HN.out (VerV.of HF.out.2.2 HFix.out) HF.out.1 HF.out.2.1)
              simp [results, Try.results77, go_sem, q0, q1, q2, q3, q4]
            · have hk1' : ((k : Int) == 1) = false := by rw [beq_eq_false_iff_ne]; omega
              have HN := Lib.hid (HN5.out.trans (if_neg hk1))
              go_wp2
              exact ⟨rfl, GAns.no HN.out F7.out⟩
end Go.Proofs.Ytilagblpamhmkaa
namespace Go.Proofs.Ytilagblpamhmkaa
open Go.RowKit
set_option linter.unusedVariables false

theorem OwnV.fr {w w1 w2 : World} {r : Nat} {v : Value} {n : Nat} {rows : List RV} (h : OwnV w1 w.heap.size v n rows) (hr : r < w.heap.size) (f : Fr (fun i => i = r) w1 w2) : OwnV w2 w.heap.size v n rows :=
  ⟨own_fr h.1 hr f, fun y hy => ⟨own_fr (h.2 y hy).1 hr f, (h.2 y hy).2⟩⟩
/-- Versions that were read. -/
def VersV (B : Nat) (w : World) (xs : List Vr) (v : Value) : Prop := ∃ rows : List RV, rows.map (·.1) = xs ∧ OwnV w B v xs.length rows
set_option maxHeartbeats 2000000 in
set_option maxRecDepth 100000 in
theorem take_vers {w : World} {r : Nat} {A : Option Addr} {n c : Nat} {L : List UInt8} {a : Nat} (h : RSt w r A n c L a) (h9 : n ≤ 1000000000000) :
    Calls Try.prog 76 #[.pointer (some ⟨r, 0, none⟩), .func (.func 77) #[.pointer (some ⟨r, 0, none⟩)] #[]] w (ListAns (VersV w.heap.size) w r A n c L (pTake (gVer okP) L a)) := by
  obtain ⟨i0, hi, hz0, hz1, hz2⟩ := info_parts Try.infoVer
  cases h1 : pNum L a with
  | none =>
    have C1 := Lib.hid (rnum_no h h1)
    have HN := Lib.hid (pTake_no (p := gVer okP) h1)
    clear h h1
    go_enter Try.func76, Try.ntmps76
    go_wp2_with fail
    refine C1.out.mono ?_
    rintro e w1 ⟨rfl, f1⟩
    exact ⟨rfl, ListAns.no HN.out f1⟩
  | some p1 =>
    obtain ⟨m, a1⟩ := p1
    by_cases hmany : n - a1 < m
    · have HN := Lib.hid (pTake_many (p := gVer okP) h1 (by rw [h.len]; exact hmany))
      have C1 := Lib.hid (rnum_yes h h1)
      have HM := Lib.hid h1
      have hm := pNum_le h1
      have hn := h.size
      have hl := h.len
      have hcap := h.cap
      have HB := Lib.hid h.blk
      have hrl := h.lt
      clear h h1
      go_enter Try.func76, Try.ntmps76
      go_wp2_with fail
      refine C1.out.mono ?_
      rintro e w1 ⟨rfl, h1, f1⟩
      have H1 := Lib.hid h1
      have F1 := Lib.hid f1
      have X0 := Ext.cell h1.c0
      have X1 := Ext.cell h1.c1
      have hlc : (0 : Int) ≤ (n : Int) - (a1 : Int) := by omega
      have hws : IntKind.i64.wrap ((n : Int) - (a1 : Int)) = (n : Int) - (a1 : Int) := IntWalk.i64_in _ (by omega)
      clear h1 f1 C1
      have hq : decide ((m : Int) > (n : Int) - (a1 : Int)) = true := decide_eq_true (by omega)
      go_wp2_with fail
      refine wp_region_ext (by kernel_rfl) (by kernel_rfl) ?_
      repeat (go_big_quiet_step (fail))
      refine wpQuiet_nil ?_
      intro w2 hw2
      have b2 := ext_end hw2
      have H2 := Lib.hid (H1.out.move b2)
      have F2 := Lib.hid (F1.out.trans (Fr.of_below b2 (fp := fun i => i = r)) fun _ h => .inl h)
      clear hw2 X0 X1 b2 hws hlc H1 F1
      go_wp2
      exact ⟨rfl, ListAns.no HN.out F2.out⟩
    · have HT := Lib.hid (pTake_eq (p := gVer okP) h1 (by rw [h.len]; omega))
      have C1 := Lib.hid (rnum_yes h h1)
      have HM := Lib.hid h1
      have hm := pNum_le h1
      have hn := h.size
      have hl := h.len
      have hcap := h.cap
      have HB := Lib.hid h.blk
      have hrl := h.lt
      clear h h1
      go_enter Try.func76, Try.ntmps76
      go_wp2_with fail
      refine C1.out.mono ?_
      rintro e w1 ⟨rfl, h1, f1⟩
      have H1 := Lib.hid h1
      have F1 := Lib.hid f1
      have X0 := Ext.cell h1.c0
      have X1 := Ext.cell h1.c1
      have hlc : (0 : Int) ≤ (n : Int) - (a1 : Int) := by omega
      have hws : IntKind.i64.wrap ((n : Int) - (a1 : Int)) = (n : Int) - (a1 : Int) := IntWalk.i64_in _ (by omega)
      clear h1 f1 C1
      have hq : decide ((m : Int) > (n : Int) - (a1 : Int)) = false := decide_eq_false (by omega)
      go_wp2_with fail
      refine wp_region_ext (by kernel_rfl) (by kernel_rfl) ?_
      repeat (go_big_quiet_step (fail))
      refine wpQuiet_nil ?_
      intro w2 hw2
      have b2 := ext_end hw2
      have H2 := Lib.hid (H1.out.move b2)
      have F2 := Lib.hid (F1.out.trans (Fr.of_below b2 (fp := fun i => i = r)) fun _ h => .inl h)
      clear hw2 X0 X1 b2 hws hlc H1 F1
      clear hq
      go_wp2
      go_loopw [6, 24] (fun v i wr => ∃ (k a2 : Nat) (rows : List RV), i = .int .i64 (k : Int) ∧ k ≤ m ∧ Hid (pRep (gVer okP) L k a1 = some (rows.map (·.1), a2)) ∧ Hid (OwnV wr w.heap.size v k rows) ∧ Hid (RSt wr r A n c L a2) ∧ Hid (Fr (fun i => i = r) w wr)) (fun _ i _ => m - (intOf i).toNat)
      case atStart => exact ⟨0, a1, [], rfl, Nat.zero_le _, rfl, OwnV.nil _ _, H2, F2⟩
      case round =>
        obtain ⟨k, a2, rows, rfl, hk, HP, HO, HR, HF⟩ := hrel
        by_cases hlt : k < m
        · cases h3 : gVer okP L a2 with
          | none =>
            have C3 := Lib.hid (show Calls _ _ _ wr (GAns (VerV wr.heap.size) wr r A n c L none) from by rw [← h3]; exact rver_any HR.out (by omega))
            have HN := Lib.hid (HT.out.trans (pRep_stop HP.out h3 hlt))
            clear h3
            go_wp2_with fail
            refine C3.out.mono ?_
            rintro e w3 ⟨rfl, f3⟩
            exact ⟨rfl, ListAns.no HN.out (HF.out.trans f3 fun _ h => .inl h)⟩
          | some p3 =>
            obtain ⟨x, a3⟩ := p3
            have C3 := Lib.hid (show Calls _ _ _ wr (GAns (VerV wr.heap.size) wr r A n c L (some (x, a3))) from by rw [← h3]; exact rver_any HR.out (by omega))
            have HS := Lib.hid (pRep_step HP.out h3)
            clear h3
            have hszr := HF.out.size
            obtain ⟨s, vn, past, gone, val⟩ := x
            go_wp2_with (first
              | (go_at_call 77; refine C3.out.mono ?_; rintro e w3 ⟨_, rfl, ⟨Ap, np, cp, rfl, own3, fix3⟩, h3, f3⟩; have F3 := HF.out.trans f3 fun _ h => .inl h; have hs3 := F3.size; have HX := Lib.hid (And.intro h3 (And.intro F3 (HO.out.fr hrl f3))); have HY := Lib.hid (And.intro (own_lower own3 hszr) fix3); clear h3 f3 F3 own3 fix3)
              | (at_builtin; refine wpList_append_sl _ rfl (.tmp 26) (.tmp 29) 30 rfl (w.heap.size) 42 i0 (.agg #[.int .i64 0, .int .i64 0, .slice none 0 0, .bool false, .string ⟨#[]⟩]) 5 64 Try.underlying30 hi hz0 hz1 hz2 rfl (by decide) (_) (k) (rows.flatMap vV1) rfl ((HX.out.2.2.1.alloc _)) (some ⟨w3.heap.size, 0, none⟩) (1) (1) (vV1 (⟨s, vn, past, gone, val⟩, Ap, np, cp)) rfl (sl_ver w3 (⟨s, vn, past, gone, val⟩, Ap, np, cp) _) ((vV1_one _)) (by unfold maxLen; omega) (by omega) (by simp; omega) ?_)
              | fail)
            intro v4 w4 own4 g4 _
            have hG := HX.out.2.2.alloc (.cells #[.int .i64 s, .int .i64 vn, .slice Ap np cp, .bool gone, .string val] 42)
            have b4 : Below w.heap.size w3 w4 := ((Below.refl _ w3).alloc hs3 _).grown g4 (by simp; omega) (fun q hq => (hG.1.lt q hq).1)
            have HF4 := Lib.hid (fr_grown (HX.out.2.1.trans (Fr.alloc (fun i => i = r) w3 _) fun _ h => .inl h) hG.1 g4)
            have HR4 := Lib.hid (HX.out.1.moveB hrl HB.out b4)
            have HO4 := Lib.hid (OwnV.push (y := (⟨s, vn, past, gone, val⟩, Ap, np, cp)) hG (HY.out.1.alloc _) HY.out.2 own4 g4)
            have HS4 := Lib.hid (show pRep (gVer okP) L (k + 1) a1 = some ((rows ++ [((⟨s, vn, past, gone, val⟩ : Vr), Ap, np, cp)]).map (·.1), a3) from by rw [List.map_append]; exact HS.out)
            clear own4 g4 hG b4
            go_wp2
            go_roundw
            case rel => exact ⟨k + 1, a3, _, by go_num, by omega, HS4, HO4, HR4, HF4⟩
            case measure => simp [intOf]; omega
        · obtain rfl : k = m := by omega
          go_wp2
          go_ret
          exact ListAns.yes (HT.out.trans HP.out) ⟨rows, rfl, by have := HO.out; rw [← pRep_len _ HP.out] at this; exact this⟩ HR.out HF.out
end Go.Proofs.Ytilagblpamhmkaa
namespace Go.Proofs.Ytilagblpamhmkaa
open Go.RowKit
set_option linter.unusedVariables false

/-- A record that was read. -/
def RecV (B : Nat) (w : World) (x : Rc) (v : Value) : Prop := ∃ (rows : List RV) (A : Option Addr) (c : Nat), v = .agg #[.string x.key, .slice A x.vers.length c] ∧ rows.map (·.1) = x.vers ∧ OwnV w B (.slice A x.vers.length c) x.vers.length rows ∧ x.vers.length ≤ c ∧ x.key.size ≤ 140737488351232 ∧ x.vers.length * 64 ≤ 140737488351232
theorem RecV.of {B : Nat} {w : World} {key : ByteArray} {vs : List Vr} {rows : List RV} {A : Option Addr} {c : Nat} (h1 : rows.map (·.1) = vs) (h2 : OwnV w B (.slice A vs.length c) vs.length rows) (h3 : vs.length ≤ c) (h4 : key.size ≤ 140737488351232 ∧ vs.length * 64 ≤ 140737488351232) : RecV B w ⟨key, vs⟩ (.agg #[.string key, .slice A vs.length c]) := ⟨rows, A, c, rfl, h1, h2, h3, h4⟩
theorem own_ne {w : World} {B : Nat} {e : TypeId} {sz n g : Nat} {v : Value} {xs : List Value} (h : w.ownsRow B e sz v n xs) (hg : g < B) : v.ownBlock ≠ some g := fun q => by have := (h.lt g q).1; omega
theorem OwnV.set {w1 : World} {B n g j : Nat} {v : Value} {rows : List RV} (h : OwnV w1 B v n rows) (hg : g < B) (u : Value) : OwnV (w1.setCell ⟨g, j, none⟩ u) B v n rows :=
  h.setCell (a := ⟨g, j, none⟩) (own_ne h.1 hg) (fun y hy => own_ne (h.2 y hy).1 hg) u
set_option maxHeartbeats 2000000 in
set_option maxRecDepth 100000 in
theorem rrec_any {w : World} {r : Nat} {A : Option Addr} {n c : Nat} {L : List UInt8} {a : Nat} (h : RSt w r A n c L a) (h9 : n ≤ 1000000000000) :
    Calls Try.prog 63 #[.pointer (some ⟨r, 0, none⟩)] w (GAns (RecV w.heap.size) w r A n c L (gRec okP L a)) := by
  have hmf : ∀ (fn : Fn) (first cap : Array Value) (w : World), (Instr.makeFunc fn first cap).run Try.prog w = .ok (.func fn first cap) w := fun _ _ _ _ => rfl
  have bA : Below w.heap.size w (w.alloc (.cells #[.string ⟨#[]⟩, .slice none 0 0] 32)) := (Below.refl _ _).alloc (Nat.le_refl _) _
  have FA := Lib.hid (Fr.of_below bA (fp := fun i => i = r))
  have hrl := h.lt
  have hLn := Lib.hid h.len
  have HB := Lib.hid h.blk
  have X0 := Lib.hid (heap_alloc_new w (.cells #[.string ⟨#[]⟩, .slice none 0 0] 32))
  have hA := Lib.hid (fun (b : Nat) (hb : w.heap.size ≤ b) (b' off : Nat) (s' : Option Nat) (hn : 0 < n) (e : A = some ⟨b', off, s'⟩) => (show b' ≠ b by have := HB.out b' off s' hn e; omega))
  cases h1 : gText L a with
  | none =>
    have C1 := Lib.hid (rtext_no (h.move bA) h1)
    have HN := Lib.hid (show gRec okP L a = none from bindP_no h1)
    clear h h1 bA
    go_enter Try.func63, Try.ntmps63
    go_wp2_with fail
    refine C1.out.mono ?_
    rintro e w1 ⟨rfl, f1⟩
    exact ⟨rfl, GAns.no HN.out (FA.out.on f1)⟩
  | some p1 =>
    obtain ⟨k, a1⟩ := p1
    have hk := text_size h1
    have hsz := h.size
    have C1 := Lib.hid (rtext_yes (h.move bA) h1)
    have HN1 := Lib.hid (show gRec okP L a = _ from bindP_yes h1)
    clear h h1 bA
    go_enter Try.func63, Try.ntmps63
    go_wp2_with fail
    refine C1.out.mono ?_
    rintro e w1 ⟨rfl, h1, f1⟩
    have F1 := Lib.hid (FA.out.on f1)
    have X1 := Lib.hid ((f1.block _ (lt_of_block X0.out) (by omega)).trans X0.out)
    have hw1 := lt_of_block X1.out
    have H1 := Lib.hid h1
    clear h1 f1 C1 X0
    cases h2 : pTake (gVer okP) L a1 with
    | none =>
      have HN := Lib.hid (HN1.out.trans (bindP_no h2))
      have C2 := take_vers H1.out h9
      rw [h2] at C2
      have C9 := Lib.hid C2
      go_wp2_with fail
      refine C9.out.mono ?_
      rintro e w9 ⟨rfl, f9⟩
      exact ⟨rfl, GAns.no HN.out (F1.out.on f9)⟩
    | some p2 =>
      obtain ⟨vs, a2⟩ := p2
      have c2 := take_vers H1.out h9
      rw [h2] at c2
      have C2 := Lib.hid c2
      have hvl : vs.length ≤ L.length := by
        obtain ⟨k1, b1, _, q2, _, q4⟩ := pTake_some h2
        omega
      have HN := Lib.hid (show gRec okP L a = some (⟨k, vs⟩, a2) from HN1.out.trans (bindP_yes h2))
      clear h2 c2
      go_wp2_with fail
      refine C2.out.mono ?_
      rintro e w2 ⟨pv, rfl, ⟨rows, hrows, hO⟩, h2, f2⟩
      obtain ⟨Ap, cp, rfl, hcp, -⟩ := own_slice hO.1
      have F2 := Lib.hid (F1.out.on f2)
      have X2 := Lib.hid ((f2.block _ (lt_of_block X1.out) (by omega)).trans X1.out)
      have H2 := Lib.hid h2
      have HO := Lib.hid hO
      have HRW := Lib.hid hrows
      clear h2 f2 C2 X1 H1 hO hrows
      have c0 := cell_of_row w2 w.heap.size 0 _ _ (0, 0) X2.out
      have c1 := cell_of_row w2 w.heap.size 1 _ _ (0, 0) X2.out
      have z0 := frozen_of_row w2 w.heap.size 0 _ _ X2.out
      have z1 := frozen_of_row w2 w.heap.size 1 _ _ X2.out
      simp at c0 c1
      have X3 := heap_setCell_same w2 w.heap.size 0 _ _ (.string k) X2.out
      have X4 := heap_setCell_same _ w.heap.size 1 _ _ (.slice Ap vs.length cp) X3
      have q0 := cell_of_row _ w.heap.size 0 _ _ (0, 0) X4
      have q1 := cell_of_row _ w.heap.size 1 _ _ (0, 0) X4
      simp at q0 q1
      have lbw := hA.out w.heap.size (Nat.le_refl _)
      have RF := (H2.out.setOther (b := w.heap.size) (j := 0) (by omega) lbw (.string k)).setOther (b := w.heap.size) (j := 1) (by omega) lbw (.slice Ap vs.length cp)
      have FF := (F2.out.put (b := w.heap.size) (j := 0) (by omega) (.string k)).put (b := w.heap.size) (j := 1) (by omega) (.slice Ap vs.length cp)
      have OF := ((HO.out.set (g := w.heap.size) (j := 0) hw1 (.string k)).set (g := w.heap.size) (j := 1) hw1 (.slice Ap vs.length cp)).lower (show w.heap.size ≤ w1.heap.size by omega)
      have HQ := Lib.hid (And.intro q0 q1)
      have HF := Lib.hid (And.intro RF (And.intro FF OF))
      have hLn2 := hLn.out
      clear RF FF OF q0 q1 X3 X4 lbw
      go_wp2
      obtain ⟨q0, q1⟩ := HQ.out
      refine bodyPost_ret (v := .agg #[.string k, .slice Ap vs.length cp]) ?_ rfl (GAns.yes HN.out (RecV.of HRW.out HF.out.2.2 hcp ⟨by omega, by omega⟩) HF.out.1 HF.out.2.1)
      simp [results, Try.results63, go_sem, q0, q1]
end Go.Proofs.Ytilagblpamhmkaa
