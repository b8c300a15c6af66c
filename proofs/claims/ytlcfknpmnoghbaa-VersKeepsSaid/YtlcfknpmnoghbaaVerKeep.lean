/-
  Merge's closure: a version is kept, or not.
-/
import Derived.Test.YtlcfknpmnoghbaaVerOwn
namespace Go.Proofs.Ytlcfknpmnoghbaa
open Go.RowKit
set_option linter.unusedVariables false

/-- Merge's state: the boxes of a, of b, of out; out is the call's own. -/
structure MSt (w0 w : World) (g2 g3 g6 : Nat) (s1 s2 : Value) (Ao : Option Addr) (no co : Nat) (rows : List RV) : Prop where
  b2 : w.heap[g2]? = some (.cells #[s1] 22 (0, 0))
  b3 : w.heap[g3]? = some (.cells #[s2] 22 (0, 0))
  b6 : w.heap[g6]? = some (.cells #[.slice Ao no co] 22 (0, 0))
  own : OwnV w w0.heap.size (.slice Ao no co) no rows
  below : Below w0.heap.size w0 w
  lo : w0.heap.size ≤ g6
  n2 : g2 ≠ g6
  n3 : g3 ≠ g6
section
variable {w0 w w' : World} {g2 g3 g6 : Nat} {s1 s2 : Value} {Ao : Option Addr} {no co : Nat} {rows : List RV}
theorem MSt.move (h : MSt w0 w g2 g3 g6 s1 s2 Ao no co rows) (b : Below w.heap.size w w') : MSt w0 w' g2 g3 g6 s1 s2 Ao no co rows :=
  ⟨(b.block _ (lt_of_block h.b2)).trans h.b2, (b.block _ (lt_of_block h.b3)).trans h.b3, (b.block _ (lt_of_block h.b6)).trans h.b6, h.own.below b, h.below.trans (b.mono h.below.size), h.lo, h.n2, h.n3⟩
end
theorem grown_setCell {w : World} {g : Nat} (i : Nat) (u : Value) (row : Option Nat) (h : row = some g) : w.grownBy (w.setCell ⟨g, i, none⟩ u) row := by
  subst h
  refine ⟨rfl, rfl, rfl, Nat.le_of_eq (World.size_setCell ..).symm, fun k hk hne => heap_setCell_other w ⟨g, i, none⟩ k u (fun e => hne (by rw [e]))⟩
/-- What keeping leaves: the box's store, the row's growth, the store into out's variable. -/
theorem MSt.push {w0 w w3 w6 : World} {g2 g3 g6 : Nat} {s1 s2 : Value} {Ao : Option Addr} {no co : Nat} {rows : List RV} {v : Vr} {Ap A' : Option Addr} {np cp c' : Nat} {v' : Option Addr} {cv : Nat} {B3 : Nat} {o : Obj}
    (h : MSt w0 w g2 g3 g6 s1 s2 Ao no co rows) (hx : BoxV w3 w.heap.size v Ap np cp) (hp : w3.ownsRow B3 42 3 (.slice A' np c') np (spV v.past)) (hf : VFix v np c') (hB3 : w.heap.size < B3) (b3 : Below w.heap.size w w3)
    (own' : w6.ownsRow w0.heap.size 28 5 (.slice v' (no + 1) cv) (no + 1) (rows.flatMap vV1 ++ [.int .i64 v.s, .int .i64 v.n, .slice A' np c', .bool v.gone, .string v.val]))
    (hg : ((w3.setCell ⟨w.heap.size, 2, none⟩ (.slice A' np c')).alloc o).grownBy w6 (Value.slice Ao no co).ownBlock) :
    w6.heap[g6]? = some (.cells #[.slice Ao no co] 22 (0, 0)) ∧ MSt w0 (w6.setCell ⟨g6, 0, none⟩ (.slice v' (no + 1) cv)) g2 g3 g6 s1 s2 v' (no + 1) cv (rows ++ [(v, A', np, c')]) := by
  have hsz := h.below.size
  have l2 := lt_of_block h.b2
  have l3 := lt_of_block h.b3
  have l6 := lt_of_block h.b6
  have s3 := b3.size
  -- the world behind the store into the box, and the literal
  have hfar := h.own.far (Nat.le_refl w.heap.size)
  have o4 : OwnV (w3.setCell ⟨w.heap.size, 2, none⟩ (.slice A' np c')) w0.heap.size (.slice Ao no co) no rows := (h.own.below b3).setCell hfar.1 hfar.2 _
  have o5 : OwnV ((w3.setCell ⟨w.heap.size, 2, none⟩ (.slice A' np c')).alloc o) w0.heap.size (.slice Ao no co) no rows := o4.alloc o
  have p4 : (w3.setCell ⟨w.heap.size, 2, none⟩ (.slice A' np c')).ownsRow w0.heap.size 42 3 (.slice A' np c') np (spV v.past) :=
    own_lower (ownsRow_setCell_other hp (fun e => by have := (hp.lt w.heap.size e).1; omega) _) (by omega)
  have p5 := p4.alloc o
  have o6 : OwnV w6 w0.heap.size (.slice v' (no + 1) cv) (no + 1) (rows ++ [(v, A', np, c')]) := OwnV.push (y := (v, A', np, c')) o5 p5 hf own' hg
  -- blocks of the old heap
  have hb : ∀ k, k < w.heap.size → some k ≠ (Value.slice Ao no co).ownBlock → w6.heap[k]? = w.heap[k]? := fun k hk hne => by
    rw [hg.block k (by simp; omega) hne, Below.heap_alloc _ _ _ (by simp; omega), heap_setCell_other _ _ _ _ (by simp; omega)]
    exact b3.block k hk
  have box_ne : ∀ (g : Nat) (x : Value), w.heap[g]? = some (.cells #[x] 22 (0, 0)) → some g ≠ (Value.slice Ao no co).ownBlock := fun g x hgx e => by
    rcases h.own.1.2 with ⟨e1, _⟩ | ⟨q, cap, cur, e1, _, hq, _⟩
    · rw [e1] at e; cases e
    · rw [e1] at e
      injection e with e
      simp only at e
      subst e
      rw [hgx] at hq
      injection hq with hq
      injection hq with _ ht
      exact absurd ht (by decide)
  have k2 := (hb g2 l2 (box_ne g2 _ h.b2)).trans h.b2
  have k3 := (hb g3 l3 (box_ne g3 _ h.b3)).trans h.b3
  have k6 := (hb g6 l6 (box_ne g6 _ h.b6)).trans h.b6
  have own_ne6 : ∀ (e : TypeId) (s m : Nat) (u : Value) (xs : List Value) (B : Nat), w6.ownsRow B e s u m xs → e ≠ 22 → u.ownBlock ≠ some g6 := fun e s m u xs B hu hne e0 => by
    rcases hu.2 with ⟨rfl, _⟩ | ⟨q, cap, cur, rfl, _, hq, _⟩
    · cases e0
    · injection e0 with e0
      simp only at e0
      subst e0
      rw [k6] at hq
      injection hq with hq
      injection hq with _ ht
      exact hne ht.symm
  have sg := hg.size
  simp at sg
  have bw : Below w0.heap.size w0 w6 := by
    refine (((h.below.trans (b3.mono hsz)).setCell (p := ⟨w.heap.size, 2, none⟩) hsz (.slice A' np c')).alloc (by simp; omega) o).grown hg (by simp; omega) (fun k hk => ?_)
    exact (h.own.1.lt k hk).1
  refine ⟨k6, ?_⟩
  exact ⟨by rw [heap_setCell_other _ _ _ _ h.n2]; exact k2, by rw [heap_setCell_other _ _ _ _ h.n3]; exact k3, one_setCell k6,
    o6.setCell (own_ne6 _ _ _ _ _ _ o6.1 (by decide)) (fun y hy => own_ne6 _ _ _ _ _ _ (o6.2 y hy).1 (by decide)) _,
    bw.setCell (p := ⟨g6, 0, none⟩) h.lo _, h.lo, h.n2, h.n3⟩

noncomputable def outK (a b out : List Vr) (v : Vr) : List Vr := out ++ if keepB a b v then [v] else []
theorem outK_yes {a b out : List Vr} {v : Vr} (h : keepB a b v = true) : outK a b out v = out ++ [v] := by unfold outK; rw [if_pos h]
theorem outK_no {a b out : List Vr} {v : Vr} (h : keepB a b v = false) : outK a b out v = out := by unfold outK; rw [if_neg (by rw [h]; decide)]; simp
/-- What a call of the closure leaves. -/
def KeptBy (w0 : World) (g2 g3 g6 : Nat) (s1 s2 : Value) (out : List Vr) (e : Ending) (w' : World) : Prop :=
  e = .returned (.tuple #[]) ∧ ∃ Ao no co rows, MSt w0 w' g2 g3 g6 s1 s2 Ao no co rows ∧ rows.map (·.1) = out
set_option maxHeartbeats 2000000 in
set_option maxRecDepth 100000 in
theorem keep_any (w0 w : World) (g2 g3 g6 : Nat) (A1 A2 : Option Addr) (n1 c1 n2 c2 : Nat) (a b : List Vr) (Ao : Option Addr) (no co : Nat) (rows : List RV) (v : Vr) (Ap : Option Addr) (np cp : Nat)
    (h : MSt w0 w g2 g3 g6 (.slice A1 n1 c1) (.slice A2 n2 c2) Ao no co rows) (h1 : SlV w A1 n1 a) (h2 : SlV w A2 n2 b) (hr : VRow w v Ap np cp) (hn1 : n1 ≤ 140737488351232) (hn2 : n2 ≤ 140737488351232) (hno : no ≤ 2048) :
    Calls Try.prog 37 #[.agg #[.int .i64 v.s, .int .i64 v.n, .slice Ap np cp, .bool v.gone, .string v.val], .pointer (some ⟨g2, 0, none⟩), .pointer (some ⟨g3, 0, none⟩), .pointer (some ⟨g6, 0, none⟩)] w
      (KeptBy w0 g2 g3 g6 (.slice A1 n1 c1) (.slice A2 n2 c2) (outK a b (rows.map (·.1)) v)) := by
  obtain ⟨i0, hi, hz0, hz1, hz2⟩ := info_parts Try.infoVer
  have bA : Below w.heap.size w (w.alloc (.cells #[.int .i64 v.s, .int .i64 v.n, .slice Ap np cp, .bool v.gone, .string v.val] 28)) := (Below.refl _ _).alloc (Nat.le_refl _) _
  have HX := BoxV.new w v Ap np cp
  have l2 := lt_of_block h.b2
  have l3 := lt_of_block h.b3
  have l6 := lt_of_block h.b6
  have f2 := cell_of_one h.b2
  have f3 := cell_of_one h.b3
  have f6 := cell_of_one h.b6
  have D1 := verBehind_any A1 n1 c1 a v.s v.n _ (h1.below bA) hn1
  have H := Lib.hid h
  have HR := Lib.hid hr
  have H2 := Lib.hid h2
  have HBX := Lib.hid HX
  have HbA := Lib.hid bA
  have hno2 := H.out.own.1
  have HOWN := Lib.hid H.out.own.1
  clear h hr h1 h2 HX bA hno2
  cases hb1 : behB a v.s v.n
  · rw [hb1] at D1
    have C1 := Lib.hid D1
    clear D1
    go_enter Try.func37, Try.ntmps37
    go_wp2_with fail
    refine C1.out.mono ?_
    rintro e w1 ⟨rfl, b1⟩
    have HW1 := Lib.hid (HbA.out.trans (b1.mono HbA.out.size))
    have q0 := ((HBX.out.below b1)).c0
    have q1 := ((HBX.out.below b1)).c1
    have m3 := (HW1.out.cell (p := ⟨g3, 0, none⟩) l3).trans f3
    have D2 := verBehind_any A2 n2 c2 b v.s v.n w1 (H2.out.below HW1.out) hn2
    have HB1 := Lib.hid (HBX.out.below b1)
    clear b1 C1
    cases hb2 : behB b v.s v.n
    · rw [hb2] at D2
      have C2 := Lib.hid D2
      have HK := Lib.hid (show keepB a b v = true by unfold keepB; rw [hb1, hb2]; rfl)
      clear D2 hb1 hb2
      go_wp2_with fail
      refine C2.out.mono ?_
      rintro e w2 ⟨rfl, b2⟩
      have HB2 := Lib.hid (HB1.out.below b2)
      have q2 := HB2.out.c2
      have HW2 := Lib.hid (HW1.out.trans (b2.mono HW1.out.size))
      have C3 := Lib.hid (cloneS_any Ap np cp v.past w2 (Sl.below HR.out.sl HW2.out) HR.out.len)
      have ls2 : w.heap.size < w2.heap.size := HB2.out.lt
      clear b2 C2 q0 q1 m3
      go_wp2_with fail
      refine C3.out.mono ?_
      rintro e w3 ⟨A', c', rfl, hc', ownp, b3⟩
      have HB3 := Lib.hid (HB2.out.below b3)
      have HW3 := Lib.hid (HW2.out.trans (b3.mono HW2.out.size))
      have HP := Lib.hid ownp
      have r0 := HB3.out.c0
      have r1 := HB3.out.c1
      have r2 := HB3.out.c2
      have r3 := HB3.out.c3
      have r4 := HB3.out.c4
      have r5 := frozen_of_row w3 w.heap.size 2 _ 28 HB3.out
      have m6 := (HW3.out.cell (p := ⟨g6, 0, none⟩) l6).trans f6
      have ls3 := HW3.out.size
      have ls3' := HB3.out.lt
      have hfar := H.out.own.far (Nat.le_refl w.heap.size)
      have O4 := (ownsRow_setCell_other (own_below HOWN.out HW3.out) hfar.1 (.slice A' np c') (a := ⟨w.heap.size, 2, none⟩)).alloc (.cells #[.int .i64 v.s, .int .i64 v.n, .slice A' np c', .bool v.gone, .string v.val] 28)
      have HO4 := Lib.hid O4
      have hsl := sl_ver (w3.setCell ⟨w.heap.size, 2, none⟩ (.slice A' np c')) (v, A', np, c') 28
      rw [World.size_setCell] at hsl
      have HSL := Lib.hid hsl
      have bs := H.out.below.size
      clear q2 C3 b3 ownp O4 hfar hsl
      go_wp2_with (first | (at_builtin; refine wpList_append_sl _ rfl (.tmp 21) (.tmp 23) 22 rfl (w0.heap.size) 28 i0 (.agg #[.int .i64 0, .int .i64 0, .slice none 0 0, .bool false, .string ⟨#[]⟩]) 5 64 Try.underlying22 hi hz0 hz1 hz2 rfl (by decide) (.slice Ao no co) (no) (rows.flatMap vV1) rfl (HO4.out) (some ⟨w3.heap.size, 0, none⟩) (1) (1) ([.int .i64 v.s, .int .i64 v.n, .slice A' np c', .bool v.gone, .string v.val]) rfl (HSL.out) (vV1_one (v, A', np, c')) (by unfold maxLen; omega) (by omega) (by simp; omega) ?_) | fail)
      intro v5 w6 own6 hg6 _
      obtain ⟨A5, c5, rfl, h5, _⟩ := own_slice own6
      have MP := Lib.hid (MSt.push H.out HB3.out HP.out (VFix.mk hc' HR.out.len HR.out.wf HR.out.wfp HR.out.str) ls2 HW3.out own6 hg6)
      have m66 := cell_of_one MP.out.1
      have m67 := free_of_one MP.out.1
      go_wp2
      refine bodyPost_ret (results_none rfl _ _ _) rfl ?_
      exact ⟨rfl, _, _, _, _, MP.out.2, by rw [outK_yes HK.out]; simp⟩
    · rw [hb2] at D2
      have C2 := Lib.hid D2
      have HK := Lib.hid (show keepB a b v = false by unfold keepB; rw [hb1, hb2]; rfl)
      clear D2 hb1 hb2
      go_wp2_with fail
      refine C2.out.mono ?_
      rintro e w2 ⟨rfl, b2⟩
      have HW2 := Lib.hid (HW1.out.trans (b2.mono HW1.out.size))
      clear b2 C2 q0 q1 m3
      go_wp2
      refine bodyPost_ret (results_none rfl _ _ _) rfl ?_
      exact ⟨rfl, _, _, _, _, H.out.move HW2.out, by rw [outK_no HK.out]⟩
  · rw [hb1] at D1
    have C1 := Lib.hid D1
    have HK := Lib.hid (show keepB a b v = false by unfold keepB; rw [hb1]; rfl)
    clear D1 hb1
    go_enter Try.func37, Try.ntmps37
    go_wp2_with fail
    refine C1.out.mono ?_
    rintro e w1 ⟨rfl, b1⟩
    have HW1 := Lib.hid (HbA.out.trans (b1.mono HbA.out.size))
    clear b1 C1
    go_wp2
    refine bodyPost_ret (results_none rfl _ _ _) rfl ?_
    exact ⟨rfl, _, _, _, _, H.out.move HW1.out, by rw [outK_no HK.out]⟩
end Go.Proofs.Ytlcfknpmnoghbaa
