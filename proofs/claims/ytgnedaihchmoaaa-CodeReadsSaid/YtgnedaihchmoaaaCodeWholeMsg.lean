/-
  firth/code.whole at a message. (Printed by tools/wholemsg.py.)
-/
import Derived.Test.YtgnedaihchmoaaaCodeCatchMsg
import Derived.Test.YtgnedaihchmoaaaCodeReadMsg
import Derived.Test.YtgnedaihchmoaaaCodeRightMsg
namespace Go.Proofs.Ytgnedaihchmoaaa
open Go.RowKit
set_option linter.unusedVariables false

theorem OwnM.keepF {w1 w2 : World} {B : Nat} {FP : Nat → Prop} {x : Mx} (h : OwnM w1 B x) (f : Fr FP w1 w2) (hf : ∀ i, B ≤ i → ¬ FP i) : OwnM w2 B x := by
  obtain ⟨⟨rows, h1, h2⟩, h3, h4, h5, h6, h7, h8, h9, h10, h11⟩ := h
  exact ⟨⟨rows, h1, h2.keepF f hf⟩, own_keepF h3 f hf, own_keepF h4 f hf, own_keepF h5 f hf, own_keepF h6 f hf, h7, h8, h9, h10, h11⟩
theorem OwnM.below {w1 w2 : World} {B : Nat} {x : Mx} (h : OwnM w1 B x) (b : Below w1.heap.size w1 w2) : OwnM w2 B x :=
  h.keepF (FP := fun _ => False) (Fr.of_below b) (fun _ _ h => h)
theorem OwnM.lower {w : World} {B B' : Nat} {x : Mx} (h : OwnM w B x) (hb : B' ≤ B) : OwnM w B' x := by
  obtain ⟨⟨rows, h1, h2⟩, h3, h4, h5, h6, h7, h8, h9, h10, h11⟩ := h
  exact ⟨⟨rows, h1, h2.lower hb⟩, own_lower h3 hb, own_lower h4 hb, own_lower h5 hb, own_lower h6 hb, h7, h8, h9, h10, h11⟩
/-- What Msg answers. -/
def MsgAns (w : World) (o : Option Mg) (x : Int) (e : Ending) (w' : World) : Prop :=
  match o with
  | some m => ∃ v, e = .returned (.tuple #[v, .int .i64 0]) ∧ MsgV w.heap.size w' m v ∧ Below w.heap.size w w'
  | none => e = .returned (.tuple #[.agg #[.int .i64 0, .int .i64 0, .int .i64 0, .int .i64 0, .int .i64 0, .int .i64 0, .int .i64 0, .int .i64 0, .int .i64 0, .string ⟨#[]⟩, .slice none 0 0, .slice none 0 0, .slice none 0 0, .slice none 0 0, .slice none 0 0], .int .i64 x]) ∧ Below w.heap.size w w'
theorem MsgAns.no {w w' : World} {o : Option Mg} {x : Int} (ho : o = none) (b : Below w.heap.size w w') : MsgAns w o x (.returned (.tuple #[.agg #[.int .i64 0, .int .i64 0, .int .i64 0, .int .i64 0, .int .i64 0, .int .i64 0, .int .i64 0, .int .i64 0, .int .i64 0, .string ⟨#[]⟩, .slice none 0 0, .slice none 0 0, .slice none 0 0, .slice none 0 0, .slice none 0 0], .int .i64 x])) w' := by rw [ho]; exact ⟨rfl, b⟩
theorem MsgAns.yes {w w' : World} {o : Option Mg} {x : Int} {m : Mg} {v : Value} (ho : o = some m) (h : MsgV w.heap.size w' m v) (b : Below w.heap.size w w') : MsgAns w o x (.returned (.tuple #[v, .int .i64 0])) w' := by rw [ho]; exact ⟨v, rfl, h, b⟩
theorem msgR_no1 {ok : Nat → Nat → Bool} {L : List UInt8} (h : gMsg ok L 0 = none) : msgR ok L = none := by unfold msgR; rw [h]
theorem msgR_no2 {ok : Nat → Nat → Bool} {L : List UInt8} {l : Mg} {a : Nat} (h : gMsg ok L 0 = some (l, a)) (hn : ¬ (a = L.length ∧ rightM l = true)) : msgR ok L = none := by unfold msgR; rw [h]; exact if_neg hn
theorem msgR_yes {ok : Nat → Nat → Bool} {L : List UInt8} {l : Mg} {a : Nat} (h : gMsg ok L 0 = some (l, a)) (hn : a = L.length ∧ rightM l = true) : msgR ok L = some l := by unfold msgR; rw [h]; exact if_pos hn
/-- The three blocks that whole lays. -/
def w3M (w : World) (A : Option Addr) (n c : Nat) : World := ((w.alloc (.cells #[.int .i64 0, .int .i64 0, .int .i64 0, .int .i64 0, .int .i64 0, .int .i64 0, .int .i64 0, .int .i64 0, .int .i64 0, .string ⟨#[]⟩, .slice none 0 0, .slice none 0 0, .slice none 0 0, .slice none 0 0, .slice none 0 0] 30)).alloc (.cells #[.int .i64 0] 24)).alloc (.cells #[.slice A n c, .int .i64 0] 148)
theorem w3M_facts (w : World) (A : Option Addr) (n c : Nat) (L : List UInt8) (hs : SlB w A n L) (hc : n ≤ c) (h9 : n ≤ 4000000000000) :
    MBox (w3M w A n c) w.heap.size (.int .i64 0) (.int .i64 0) (.int .i64 0) (.int .i64 0) (.int .i64 0) (.int .i64 0) (.int .i64 0) (.int .i64 0) (.int .i64 0) (.string ⟨#[]⟩) (.slice none 0 0) (.slice none 0 0) (.slice none 0 0) (.slice none 0 0) (.slice none 0 0) ∧ (w3M w A n c).heap[w.heap.size + 1]? = some (.cells #[.int .i64 0] 24 (0, 0)) ∧ RSt (w3M w A n c) (w.heap.size + 1 + 1) A n c L 0 ∧ Below w.heap.size w (w3M w A n c) ∧ (w3M w A n c).heap.size = w.heap.size + 3 := by
  have b1 : Below w.heap.size w (w.alloc (.cells #[.int .i64 0, .int .i64 0, .int .i64 0, .int .i64 0, .int .i64 0, .int .i64 0, .int .i64 0, .int .i64 0, .int .i64 0, .string ⟨#[]⟩, .slice none 0 0, .slice none 0 0, .slice none 0 0, .slice none 0 0, .slice none 0 0] 30)) := (Below.refl _ _).alloc (Nat.le_refl _) _
  have b2 := b1.alloc b1.size (.cells #[.int .i64 0] 24)
  have b3 := b2.alloc b2.size (.cells #[.slice A n c, .int .i64 0] 148)
  have e1 := heap_alloc_new (w.alloc (.cells #[.int .i64 0, .int .i64 0, .int .i64 0, .int .i64 0, .int .i64 0, .int .i64 0, .int .i64 0, .int .i64 0, .int .i64 0, .string ⟨#[]⟩, .slice none 0 0, .slice none 0 0, .slice none 0 0, .slice none 0 0, .slice none 0 0] 30)) (.cells #[.int .i64 0] 24)
  have e2 := heap_alloc_new ((w.alloc (.cells #[.int .i64 0, .int .i64 0, .int .i64 0, .int .i64 0, .int .i64 0, .int .i64 0, .int .i64 0, .int .i64 0, .int .i64 0, .string ⟨#[]⟩, .slice none 0 0, .slice none 0 0, .slice none 0 0, .slice none 0 0, .slice none 0 0] 30)).alloc (.cells #[.int .i64 0] 24)) (.cells #[.slice A n c, .int .i64 0] 148)
  rw [show (w.alloc (.cells #[.int .i64 0, .int .i64 0, .int .i64 0, .int .i64 0, .int .i64 0, .int .i64 0, .int .i64 0, .int .i64 0, .int .i64 0, .string ⟨#[]⟩, .slice none 0 0, .slice none 0 0, .slice none 0 0, .slice none 0 0, .slice none 0 0] 30)).heap.size = w.heap.size + 1 by simp] at e1
  rw [show ((w.alloc (.cells #[.int .i64 0, .int .i64 0, .int .i64 0, .int .i64 0, .int .i64 0, .int .i64 0, .int .i64 0, .int .i64 0, .int .i64 0, .string ⟨#[]⟩, .slice none 0 0, .slice none 0 0, .slice none 0 0, .slice none 0 0, .slice none 0 0] 30)).alloc (.cells #[.int .i64 0] 24)).heap.size = w.heap.size + 1 + 1 by simp] at e2
  refine ⟨?_, ?_, ⟨e2, Sl.below hs b3, fun b off s hn e => ?_, Nat.zero_le _, hc, by omega⟩, b3, by simp [w3M]⟩
  · exact (Below.heap_alloc _ _ _ (by simp; omega)).trans ((Below.heap_alloc _ _ _ (by simp)).trans (heap_alloc_new w _))
  · exact (Below.heap_alloc _ _ _ (by simp)).trans e1
  · have := Sl.blk_lt hs (b := b) (off := off) (s := s) (by omega) e
    omega
set_option maxHeartbeats 8000000 in
set_option maxRecDepth 100000 in
theorem wholeM_any (w : World) (A : Option Addr) (n c : Nat) (L : List UInt8) (hs : SlB w A n L) (hc : n ≤ c) (h9 : n ≤ 1000000000000) :
    Calls Try.prog 54 #[.slice A n c, .func (.func 55) #[] #[], .func (.func 13) #[] #[]] w (MsgAns w (msgR okP L) 2) := by
  have hmf : ∀ (fn : Fn) (first cap : Array Value) (w : World), (Instr.makeFunc fn first cap).run Try.prog w = .ok (.func fn first cap) w := fun _ _ _ _ => rfl
  have HL := Lib.hid hs.len
  obtain ⟨f0, f1, f2, f3, f4⟩ := w3M_facts w A n c L hs hc (by omega)
  have HW := Lib.hid (And.intro f0 (And.intro f1 (And.intro f3 f4)))
  have C1 := Lib.hid (rmsg_any f2 h9)
  have HR0 := Lib.hid f2
  have HB0 := Lib.hid (fun (b' off : Nat) (s : Option Nat) (hn : 0 < n) (e : A = some ⟨b', off, s⟩) => Sl.blk_lt hs (b := b') (off := off) (s := s) (by omega) e)
  clear f0 f1 f2 f3 f4 hs
  go_enter_defers Try.func54, Try.ntmps54
  go_wp2_with fail
  change Calls _ _ _ (w3M w A n c) _
  generalize hw3 : w3M w A n c = w3 at *
  clear hw3
  cases ho : gMsg okP L 0 with
  | none =>
    rw [ho] at C1
    have HN := Lib.hid (msgR_no1 ho)
    clear ho
    refine C1.out.mono ?_
    rintro e w4 ⟨rfl, f4⟩
    have HG := Lib.hid (show MBox w4 w.heap.size (.int .i64 0) (.int .i64 0) (.int .i64 0) (.int .i64 0) (.int .i64 0) (.int .i64 0) (.int .i64 0) (.int .i64 0) (.int .i64 0) (.string ⟨#[]⟩) (.slice none 0 0) (.slice none 0 0) (.slice none 0 0) (.slice none 0 0) (.slice none 0 0) ∧ w4.heap[w.heap.size + 1]? = some (.cells #[.int .i64 0] 24 (0, 0)) ∧ Below w.heap.size w w4 from
      ⟨(f4.block _ (lt_of_block HW.out.1) (by omega)).trans HW.out.1, (f4.block _ (lt_of_block HW.out.2.1) (by omega)).trans HW.out.2.1, HW.out.2.2.1.trans (f4.below (B := w.heap.size) (fun i hi => by have hi2 : i = w.heap.size + 1 + 1 := hi; omega) (by have := HW.out.2.2.2; omega))⟩)
    clear f4
    refine leaves_cons (f := 94) (args := #[.pointer (some ⟨w.heap.size, 0, none⟩), .pointer (some ⟨w.heap.size + 1, 0, none⟩)]) (by simp) (by simp [go_sem]) ?_
    refine (catchM_wrong w.heap.size (w.heap.size + 1) _ _ _ _ _ _ _ _ _ _ _ _ _ _ _ _ _ [] _ HG.out.1 HG.out.2.1 (by omega)).mono ?_
    rintro e u' w'' ⟨rfl, rfl, qm, qe, ff⟩
    have HE := Lib.hid (MsgAns.no (x := 2) HN.out (HG.out.2.2.trans (ff.below (B := w.heap.size) (fun i hi => by have hi2 : i = w.heap.size ∨ i = w.heap.size + 1 := hi; omega) HG.out.2.2.size)))
    have q0 := mcell (j := 0) qm rfl
    have q1 := mcell (j := 1) qm rfl
    have q2 := mcell (j := 2) qm rfl
    have q3 := mcell (j := 3) qm rfl
    have q4 := mcell (j := 4) qm rfl
    have q5 := mcell (j := 5) qm rfl
    have q6 := mcell (j := 6) qm rfl
    have q7 := mcell (j := 7) qm rfl
    have q8 := mcell (j := 8) qm rfl
    have q9 := mcell (j := 9) qm rfl
    have q10 := mcell (j := 10) qm rfl
    have q11 := mcell (j := 11) qm rfl
    have q12 := mcell (j := 12) qm rfl
    have q13 := mcell (j := 13) qm rfl
    have q14 := mcell (j := 14) qm rfl
    clear ff qm
    simp [Leaves, settle, results, Try.results54, go_sem, qe, q0, q1, q2, q3, q4, q5, q6, q7, q8, q9, q10, q11, q12, q13, q14]
    exact HE.out
  | some p =>
    obtain ⟨m, a1⟩ := p
    rw [ho] at C1
    have HO := Lib.hid ho
    clear ho
    refine C1.out.mono ?_
    rintro e w4 ⟨v, rfl, ⟨x, hm, hv, hO⟩, h4, f4⟩
    obtain ⟨⟨kind, fs, fn, ts, tn, id, mn, fo, code, key, recs, vec, path, hashes, route⟩, Ar, nr, cr, Av, nv, cv, Ap, np, cp, Ah, nh, ch, Ao, no, co⟩ := x
    simp only [Mx.cells] at hv hm
    subst hv hm
    have hsz3 := HW.out.2.2.2
    have hsz4 := f4.size
    have k0 := MBox.fr HW.out.1 f4 (by omega)
    have k1 := (f4.block _ (lt_of_block HW.out.2.1) (by omega)).trans HW.out.2.1
    have bw4 : Below w.heap.size w w4 := HW.out.2.2.1.trans (f4.below (B := w.heap.size) (fun i hi => by have hi2 : i = w.heap.size + 1 + 1 := hi; omega) (by omega))
    have x0 := mcell (j := 0) k0 rfl
    have x1 := mcell (j := 1) k0 rfl
    have x2 := mcell (j := 2) k0 rfl
    have x3 := mcell (j := 3) k0 rfl
    have x4 := mcell (j := 4) k0 rfl
    have x5 := mcell (j := 5) k0 rfl
    have x6 := mcell (j := 6) k0 rfl
    have x7 := mcell (j := 7) k0 rfl
    have x8 := mcell (j := 8) k0 rfl
    have x9 := mcell (j := 9) k0 rfl
    have x10 := mcell (j := 10) k0 rfl
    have x11 := mcell (j := 11) k0 rfl
    have x12 := mcell (j := 12) k0 rfl
    have x13 := mcell (j := 13) k0 rfl
    have x14 := mcell (j := 14) k0 rfl
    have z0 := frozen_of_row _ _ 0 _ _ k0
    have z1 := frozen_of_row _ _ 1 _ _ k0
    have z2 := frozen_of_row _ _ 2 _ _ k0
    have z3 := frozen_of_row _ _ 3 _ _ k0
    have z4 := frozen_of_row _ _ 4 _ _ k0
    have z5 := frozen_of_row _ _ 5 _ _ k0
    have z6 := frozen_of_row _ _ 6 _ _ k0
    have z7 := frozen_of_row _ _ 7 _ _ k0
    have z8 := frozen_of_row _ _ 8 _ _ k0
    have z9 := frozen_of_row _ _ 9 _ _ k0
    have z10 := frozen_of_row _ _ 10 _ _ k0
    have z11 := frozen_of_row _ _ 11 _ _ k0
    have z12 := frozen_of_row _ _ 12 _ _ k0
    have z13 := frozen_of_row _ _ 13 _ _ k0
    have z14 := frozen_of_row _ _ 14 _ _ k0
    have hfar : ∀ b' off s, 0 < n → A = some ⟨b', off, s⟩ → b' ≠ w.heap.size := fun b' off s hn e => by have := HB0.out b' off s hn e; omega
    have R5 := Lib.hid (((((((((((((((h4.setOther (b := w.heap.size) (j := 0) (by omega) hfar (.int .i64 kind)).setOther (b := w.heap.size) (j := 1) (by omega) hfar (.int .i64 fs)).setOther (b := w.heap.size) (j := 2) (by omega) hfar (.int .i64 fn)).setOther (b := w.heap.size) (j := 3) (by omega) hfar (.int .i64 ts)).setOther (b := w.heap.size) (j := 4) (by omega) hfar (.int .i64 tn)).setOther (b := w.heap.size) (j := 5) (by omega) hfar (.int .i64 id)).setOther (b := w.heap.size) (j := 6) (by omega) hfar (.int .i64 mn)).setOther (b := w.heap.size) (j := 7) (by omega) hfar (.int .i64 fo)).setOther (b := w.heap.size) (j := 8) (by omega) hfar (.int .i64 code)).setOther (b := w.heap.size) (j := 9) (by omega) hfar (.string key)).setOther (b := w.heap.size) (j := 10) (by omega) hfar (.slice Ar nr cr)).setOther (b := w.heap.size) (j := 11) (by omega) hfar (.slice Av nv cv)).setOther (b := w.heap.size) (j := 12) (by omega) hfar (.slice Ap np cp)).setOther (b := w.heap.size) (j := 13) (by omega) hfar (.slice Ah nh ch)).setOther (b := w.heap.size) (j := 14) (by omega) hfar (.slice Ao no co))
    have O5 := Lib.hid (hO.keepF ((((((((((((((((Fr.refl (fun i => i = w.heap.size) w4).more (b := w.heap.size) (j := 0) rfl (.int .i64 kind)).more (b := w.heap.size) (j := 1) rfl (.int .i64 fs)).more (b := w.heap.size) (j := 2) rfl (.int .i64 fn)).more (b := w.heap.size) (j := 3) rfl (.int .i64 ts)).more (b := w.heap.size) (j := 4) rfl (.int .i64 tn)).more (b := w.heap.size) (j := 5) rfl (.int .i64 id)).more (b := w.heap.size) (j := 6) rfl (.int .i64 mn)).more (b := w.heap.size) (j := 7) rfl (.int .i64 fo)).more (b := w.heap.size) (j := 8) rfl (.int .i64 code)).more (b := w.heap.size) (j := 9) rfl (.string key)).more (b := w.heap.size) (j := 10) rfl (.slice Ar nr cr)).more (b := w.heap.size) (j := 11) rfl (.slice Av nv cv)).more (b := w.heap.size) (j := 12) rfl (.slice Ap np cp)).more (b := w.heap.size) (j := 13) rfl (.slice Ah nh ch)).more (b := w.heap.size) (j := 14) rfl (.slice Ao no co)) (fun i hi e => by have e2 : i = w.heap.size := e; omega))
    have g0 := (MBox.set14 (MBox.set13 (MBox.set12 (MBox.set11 (MBox.set10 (MBox.set9 (MBox.set8 (MBox.set7 (MBox.set6 (MBox.set5 (MBox.set4 (MBox.set3 (MBox.set2 (MBox.set1 (MBox.set0 k0 (.int .i64 kind)) (.int .i64 fs)) (.int .i64 fn)) (.int .i64 ts)) (.int .i64 tn)) (.int .i64 id)) (.int .i64 mn)) (.int .i64 fo)) (.int .i64 code)) (.string key)) (.slice Ar nr cr)) (.slice Av nv cv)) (.slice Ap np cp)) (.slice Ah nh ch)) (.slice Ao no co))
    have g1 := (Fr.block ((((((((((((((((Fr.refl (fun i => i = w.heap.size) w4).more (b := w.heap.size) (j := 0) rfl (.int .i64 kind)).more (b := w.heap.size) (j := 1) rfl (.int .i64 fs)).more (b := w.heap.size) (j := 2) rfl (.int .i64 fn)).more (b := w.heap.size) (j := 3) rfl (.int .i64 ts)).more (b := w.heap.size) (j := 4) rfl (.int .i64 tn)).more (b := w.heap.size) (j := 5) rfl (.int .i64 id)).more (b := w.heap.size) (j := 6) rfl (.int .i64 mn)).more (b := w.heap.size) (j := 7) rfl (.int .i64 fo)).more (b := w.heap.size) (j := 8) rfl (.int .i64 code)).more (b := w.heap.size) (j := 9) rfl (.string key)).more (b := w.heap.size) (j := 10) rfl (.slice Ar nr cr)).more (b := w.heap.size) (j := 11) rfl (.slice Av nv cv)).more (b := w.heap.size) (j := 12) rfl (.slice Ap np cp)).more (b := w.heap.size) (j := 13) rfl (.slice Ah nh ch)).more (b := w.heap.size) (j := 14) rfl (.slice Ao no co)) (w.heap.size + 1) (lt_of_block k1) (by simp)).trans k1
    have b5 := (((((((((((((((bw4.setCell (p := ⟨w.heap.size, 0, none⟩) (Nat.le_refl _) (.int .i64 kind)).setCell (p := ⟨w.heap.size, 1, none⟩) (Nat.le_refl _) (.int .i64 fs)).setCell (p := ⟨w.heap.size, 2, none⟩) (Nat.le_refl _) (.int .i64 fn)).setCell (p := ⟨w.heap.size, 3, none⟩) (Nat.le_refl _) (.int .i64 ts)).setCell (p := ⟨w.heap.size, 4, none⟩) (Nat.le_refl _) (.int .i64 tn)).setCell (p := ⟨w.heap.size, 5, none⟩) (Nat.le_refl _) (.int .i64 id)).setCell (p := ⟨w.heap.size, 6, none⟩) (Nat.le_refl _) (.int .i64 mn)).setCell (p := ⟨w.heap.size, 7, none⟩) (Nat.le_refl _) (.int .i64 fo)).setCell (p := ⟨w.heap.size, 8, none⟩) (Nat.le_refl _) (.int .i64 code)).setCell (p := ⟨w.heap.size, 9, none⟩) (Nat.le_refl _) (.string key)).setCell (p := ⟨w.heap.size, 10, none⟩) (Nat.le_refl _) (.slice Ar nr cr)).setCell (p := ⟨w.heap.size, 11, none⟩) (Nat.le_refl _) (.slice Av nv cv)).setCell (p := ⟨w.heap.size, 12, none⟩) (Nat.le_refl _) (.slice Ap np cp)).setCell (p := ⟨w.heap.size, 13, none⟩) (Nat.le_refl _) (.slice Ah nh ch)).setCell (p := ⟨w.heap.size, 14, none⟩) (Nat.le_refl _) (.slice Ao no co))
    have HG := Lib.hid (And.intro g0 (And.intro g1 b5))
    have q0 := mcell (j := 0) g0 rfl
    have q1 := mcell (j := 1) g0 rfl
    have q2 := mcell (j := 2) g0 rfl
    have q3 := mcell (j := 3) g0 rfl
    have q4 := mcell (j := 4) g0 rfl
    have q5 := mcell (j := 5) g0 rfl
    have q6 := mcell (j := 6) g0 rfl
    have q7 := mcell (j := 7) g0 rfl
    have q8 := mcell (j := 8) g0 rfl
    have q9 := mcell (j := 9) g0 rfl
    have q10 := mcell (j := 10) g0 rfl
    have q11 := mcell (j := 11) g0 rfl
    have q12 := mcell (j := 12) g0 rfl
    have q13 := mcell (j := 13) g0 rfl
    have q14 := mcell (j := 14) g0 rfl
    have d2 := R5.out.c1
    clear k0 k1 bw4 g0 g1 b5 h4 f4 hO hfar
    by_cases ha : a1 = n
    · have t1 : ((a1 : Int) != (n : Int)) = false := by rw [ha]; simp
      have t2 : ((a1 : Int) == (n : Int)) = true := by rw [ha]; simp
      have c2 := rightMsg_any ⟨⟨kind, fs, fn, ts, tn, id, mn, fo, code, key, recs, vec, path, hashes, route⟩, Ar, nr, cr, Av, nv, cv, Ap, np, cp, Ah, nh, ch, Ao, no, co⟩ _ O5.out.row
      simp only [Mx.cells] at c2
      cases hr : rightM ⟨kind, fs, fn, ts, tn, id, mn, fo, code, key, recs, vec, path, hashes, route⟩
      · rw [hr] at c2
        have C2 := Lib.hid c2
        have HN := Lib.hid (msgR_no2 HO.out (fun h => by rw [hr] at h; cases h.2))
        clear c2 hr ha O5 R5
        go_wp2_with fail
        refine C2.out.mono ?_
        rintro e w6 ⟨rfl, b6⟩
        have HG' := Lib.hid (And.intro ((b6.block _ (lt_of_block HG.out.1)).trans HG.out.1) (And.intro ((b6.block _ (lt_of_block HG.out.2.1)).trans HG.out.2.1) (HG.out.2.2.trans (b6.mono HG.out.2.2.size))))
        clear HG
        have HG := HG'
        clear HG' b6 C2 d2 x0 z0 q0 x1 z1 q1 x2 z2 q2 x3 z3 q3 x4 z4 q4 x5 z5 q5 x6 z6 q6 x7 z7 q7 x8 z8 q8 x9 z9 q9 x10 z10 q10 x11 z11 q11 x12 z12 q12 x13 z13 q13 x14 z14 q14 HR0 HB0
        go_wp2
        refine leaves_cons (f := 94) (args := #[.pointer (some ⟨w.heap.size, 0, none⟩), .pointer (some ⟨w.heap.size + 1, 0, none⟩)]) (by simp) (by simp [go_sem]) ?_
        refine (catchM_wrong w.heap.size (w.heap.size + 1) _ _ _ _ _ _ _ _ _ _ _ _ _ _ _ _ _ [] _ HG.out.1 HG.out.2.1 (by omega)).mono ?_
        rintro e u' w'' ⟨rfl, rfl, qm, qe, ff⟩
        have HE := Lib.hid (MsgAns.no (x := 2) HN.out (HG.out.2.2.trans (ff.below (B := w.heap.size) (fun i hi => by have hi2 : i = w.heap.size ∨ i = w.heap.size + 1 := hi; omega) HG.out.2.2.size)))
        have q0 := mcell (j := 0) qm rfl
        have q1 := mcell (j := 1) qm rfl
        have q2 := mcell (j := 2) qm rfl
        have q3 := mcell (j := 3) qm rfl
        have q4 := mcell (j := 4) qm rfl
        have q5 := mcell (j := 5) qm rfl
        have q6 := mcell (j := 6) qm rfl
        have q7 := mcell (j := 7) qm rfl
        have q8 := mcell (j := 8) qm rfl
        have q9 := mcell (j := 9) qm rfl
        have q10 := mcell (j := 10) qm rfl
        have q11 := mcell (j := 11) qm rfl
        have q12 := mcell (j := 12) qm rfl
        have q13 := mcell (j := 13) qm rfl
        have q14 := mcell (j := 14) qm rfl
        clear ff qm
        simp [Leaves, settle, results, Try.results54, go_sem, qe, q0, q1, q2, q3, q4, q5, q6, q7, q8, q9, q10, q11, q12, q13, q14]
        exact HE.out
      · rw [hr] at c2
        have C2 := Lib.hid c2
        have HN := Lib.hid (msgR_yes HO.out ⟨ha.trans HL.out.symm, hr⟩)
        clear c2 hr ha R5
        go_wp2_with fail
        refine C2.out.mono ?_
        rintro e w6 ⟨rfl, b6⟩
        have HG6 := Lib.hid (And.intro ((b6.block _ (lt_of_block HG.out.1)).trans HG.out.1) (And.intro ((b6.block _ (lt_of_block HG.out.2.1)).trans HG.out.2.1) (HG.out.2.2.trans (b6.mono HG.out.2.2.size))))
        have O6 := Lib.hid (O5.out.below b6)
        clear b6 C2 d2 x0 z0 q0 x1 z1 q1 x2 z2 q2 x3 z3 q3 x4 z4 q4 x5 z5 q5 x6 z6 q6 x7 z7 q7 x8 z8 q8 x9 z9 q9 x10 z10 q10 x11 z11 q11 x12 z12 q12 x13 z13 q13 x14 z14 q14 HR0 HB0 HG O5
        have x0 := mcell (j := 0) HG6.out.1 rfl
        have x1 := mcell (j := 1) HG6.out.1 rfl
        have x2 := mcell (j := 2) HG6.out.1 rfl
        have x3 := mcell (j := 3) HG6.out.1 rfl
        have x4 := mcell (j := 4) HG6.out.1 rfl
        have x5 := mcell (j := 5) HG6.out.1 rfl
        have x6 := mcell (j := 6) HG6.out.1 rfl
        have x7 := mcell (j := 7) HG6.out.1 rfl
        have x8 := mcell (j := 8) HG6.out.1 rfl
        have x9 := mcell (j := 9) HG6.out.1 rfl
        have x10 := mcell (j := 10) HG6.out.1 rfl
        have x11 := mcell (j := 11) HG6.out.1 rfl
        have x12 := mcell (j := 12) HG6.out.1 rfl
        have x13 := mcell (j := 13) HG6.out.1 rfl
        have x14 := mcell (j := 14) HG6.out.1 rfl
        have z0 := frozen_of_row _ _ 0 _ _ HG6.out.1
        have z1 := frozen_of_row _ _ 1 _ _ HG6.out.1
        have z2 := frozen_of_row _ _ 2 _ _ HG6.out.1
        have z3 := frozen_of_row _ _ 3 _ _ HG6.out.1
        have z4 := frozen_of_row _ _ 4 _ _ HG6.out.1
        have z5 := frozen_of_row _ _ 5 _ _ HG6.out.1
        have z6 := frozen_of_row _ _ 6 _ _ HG6.out.1
        have z7 := frozen_of_row _ _ 7 _ _ HG6.out.1
        have z8 := frozen_of_row _ _ 8 _ _ HG6.out.1
        have z9 := frozen_of_row _ _ 9 _ _ HG6.out.1
        have z10 := frozen_of_row _ _ 10 _ _ HG6.out.1
        have z11 := frozen_of_row _ _ 11 _ _ HG6.out.1
        have z12 := frozen_of_row _ _ 12 _ _ HG6.out.1
        have z13 := frozen_of_row _ _ 13 _ _ HG6.out.1
        have z14 := frozen_of_row _ _ 14 _ _ HG6.out.1
        have y0 := cell_of_one HG6.out.2.1
        have y1 := free_of_one HG6.out.2.1
        have k1 := (MBox.set14 (MBox.set13 (MBox.set12 (MBox.set11 (MBox.set10 (MBox.set9 (MBox.set8 (MBox.set7 (MBox.set6 (MBox.set5 (MBox.set4 (MBox.set3 (MBox.set2 (MBox.set1 (MBox.set0 HG6.out.1 (.int .i64 kind)) (.int .i64 fs)) (.int .i64 fn)) (.int .i64 ts)) (.int .i64 tn)) (.int .i64 id)) (.int .i64 mn)) (.int .i64 fo)) (.int .i64 code)) (.string key)) (.slice Ar nr cr)) (.slice Av nv cv)) (.slice Ap np cp)) (.slice Ah nh ch)) (.slice Ao no co))
        have k2 := one_setCell (u := .int .i64 0) ((Fr.block ((((((((((((((((Fr.refl (fun i => i = w.heap.size) w6).more (b := w.heap.size) (j := 0) rfl (.int .i64 kind)).more (b := w.heap.size) (j := 1) rfl (.int .i64 fs)).more (b := w.heap.size) (j := 2) rfl (.int .i64 fn)).more (b := w.heap.size) (j := 3) rfl (.int .i64 ts)).more (b := w.heap.size) (j := 4) rfl (.int .i64 tn)).more (b := w.heap.size) (j := 5) rfl (.int .i64 id)).more (b := w.heap.size) (j := 6) rfl (.int .i64 mn)).more (b := w.heap.size) (j := 7) rfl (.int .i64 fo)).more (b := w.heap.size) (j := 8) rfl (.int .i64 code)).more (b := w.heap.size) (j := 9) rfl (.string key)).more (b := w.heap.size) (j := 10) rfl (.slice Ar nr cr)).more (b := w.heap.size) (j := 11) rfl (.slice Av nv cv)).more (b := w.heap.size) (j := 12) rfl (.slice Ap np cp)).more (b := w.heap.size) (j := 13) rfl (.slice Ah nh ch)).more (b := w.heap.size) (j := 14) rfl (.slice Ao no co)) (w.heap.size + 1) (lt_of_block HG6.out.2.1) (by simp)).trans HG6.out.2.1)
        have k4 := MBox.other k1 (b' := w.heap.size + 1) (j := 0) (by omega) (.int .i64 0)
        have q0 := mcell (j := 0) k4 rfl
        have q1 := mcell (j := 1) k4 rfl
        have q2 := mcell (j := 2) k4 rfl
        have q3 := mcell (j := 3) k4 rfl
        have q4 := mcell (j := 4) k4 rfl
        have q5 := mcell (j := 5) k4 rfl
        have q6 := mcell (j := 6) k4 rfl
        have q7 := mcell (j := 7) k4 rfl
        have q8 := mcell (j := 8) k4 rfl
        have q9 := mcell (j := 9) k4 rfl
        have q10 := mcell (j := 10) k4 rfl
        have q11 := mcell (j := 11) k4 rfl
        have q12 := mcell (j := 12) k4 rfl
        have q13 := mcell (j := 13) k4 rfl
        have q14 := mcell (j := 14) k4 rfl
        have qe := cell_of_one k2
        have bE := (((((((((((((((HG6.out.2.2.setCell (p := ⟨w.heap.size, 0, none⟩) (Nat.le_refl _) (.int .i64 kind)).setCell (p := ⟨w.heap.size, 1, none⟩) (Nat.le_refl _) (.int .i64 fs)).setCell (p := ⟨w.heap.size, 2, none⟩) (Nat.le_refl _) (.int .i64 fn)).setCell (p := ⟨w.heap.size, 3, none⟩) (Nat.le_refl _) (.int .i64 ts)).setCell (p := ⟨w.heap.size, 4, none⟩) (Nat.le_refl _) (.int .i64 tn)).setCell (p := ⟨w.heap.size, 5, none⟩) (Nat.le_refl _) (.int .i64 id)).setCell (p := ⟨w.heap.size, 6, none⟩) (Nat.le_refl _) (.int .i64 mn)).setCell (p := ⟨w.heap.size, 7, none⟩) (Nat.le_refl _) (.int .i64 fo)).setCell (p := ⟨w.heap.size, 8, none⟩) (Nat.le_refl _) (.int .i64 code)).setCell (p := ⟨w.heap.size, 9, none⟩) (Nat.le_refl _) (.string key)).setCell (p := ⟨w.heap.size, 10, none⟩) (Nat.le_refl _) (.slice Ar nr cr)).setCell (p := ⟨w.heap.size, 11, none⟩) (Nat.le_refl _) (.slice Av nv cv)).setCell (p := ⟨w.heap.size, 12, none⟩) (Nat.le_refl _) (.slice Ap np cp)).setCell (p := ⟨w.heap.size, 13, none⟩) (Nat.le_refl _) (.slice Ah nh ch)).setCell (p := ⟨w.heap.size, 14, none⟩) (Nat.le_refl _) (.slice Ao no co)).setCell (p := ⟨w.heap.size + 1, 0, none⟩) (by simp) (.int .i64 0)
        have OE := (O6.out.keepF (((((((((((((((((Fr.refl (fun i => i = w.heap.size ∨ i = w.heap.size + 1) w6).more (b := w.heap.size) (j := 0) (.inl rfl) (.int .i64 kind)).more (b := w.heap.size) (j := 1) (.inl rfl) (.int .i64 fs)).more (b := w.heap.size) (j := 2) (.inl rfl) (.int .i64 fn)).more (b := w.heap.size) (j := 3) (.inl rfl) (.int .i64 ts)).more (b := w.heap.size) (j := 4) (.inl rfl) (.int .i64 tn)).more (b := w.heap.size) (j := 5) (.inl rfl) (.int .i64 id)).more (b := w.heap.size) (j := 6) (.inl rfl) (.int .i64 mn)).more (b := w.heap.size) (j := 7) (.inl rfl) (.int .i64 fo)).more (b := w.heap.size) (j := 8) (.inl rfl) (.int .i64 code)).more (b := w.heap.size) (j := 9) (.inl rfl) (.string key)).more (b := w.heap.size) (j := 10) (.inl rfl) (.slice Ar nr cr)).more (b := w.heap.size) (j := 11) (.inl rfl) (.slice Av nv cv)).more (b := w.heap.size) (j := 12) (.inl rfl) (.slice Ap np cp)).more (b := w.heap.size) (j := 13) (.inl rfl) (.slice Ah nh ch)).more (b := w.heap.size) (j := 14) (.inl rfl) (.slice Ao no co)).more (b := w.heap.size + 1) (j := 0) (.inr rfl) (.int .i64 0)) (fun i hi => by rintro (e | e) <;> omega)).lower (show w.heap.size ≤ w3.heap.size by omega)
        have HE := Lib.hid (MsgAns.yes (x := 2) HN.out ⟨⟨⟨kind, fs, fn, ts, tn, id, mn, fo, code, key, recs, vec, path, hashes, route⟩, Ar, nr, cr, Av, nv, cv, Ap, np, cp, Ah, nh, ch, Ao, no, co⟩, rfl, rfl, OE⟩ bE)
        have HQ := Lib.hid (And.intro q0 (And.intro q1 (And.intro q2 (And.intro q3 (And.intro q4 (And.intro q5 (And.intro q6 (And.intro q7 (And.intro q8 (And.intro q9 (And.intro q10 (And.intro q11 (And.intro q12 (And.intro q13 (And.intro q14 qe)))))))))))))))
        clear k1 k2 k4 bE OE O6 qe q0 q1 q2 q3 q4 q5 q6 q7 q8 q9 q10 q11 q12 q13 q14
        go_wp2
        refine leaves_cons (f := 94) (args := #[.pointer (some ⟨w.heap.size, 0, none⟩), .pointer (some ⟨w.heap.size + 1, 0, none⟩)]) (by simp) (by simp [go_sem]) ?_
        refine (catchM_idle _ _ _).mono ?_
        rintro e u' w'' ⟨rfl, rfl, rfl⟩
        obtain ⟨q0, q1, q2, q3, q4, q5, q6, q7, q8, q9, q10, q11, q12, q13, q14, qe⟩ := HQ.out
        simp [Leaves, settle, results, Try.results54, go_sem, qe, q0, q1, q2, q3, q4, q5, q6, q7, q8, q9, q10, q11, q12, q13, q14]
        exact HE.out
    · have t1 : ((a1 : Int) != (n : Int)) = true := by rw [bne_iff_ne]; omega
      have t2 : ((a1 : Int) == (n : Int)) = false := by rw [beq_eq_false_iff_ne]; omega
      have HN := Lib.hid (msgR_no2 HO.out (fun h => ha (h.1.trans HL.out)))
      clear ha O5 R5 q0 q1 q2 q3 q4 q5 q6 q7 q8 q9 q10 q11 q12 q13 q14
      go_wp2
      refine leaves_cons (f := 94) (args := #[.pointer (some ⟨w.heap.size, 0, none⟩), .pointer (some ⟨w.heap.size + 1, 0, none⟩)]) (by simp) (by simp [go_sem]) ?_
      refine (catchM_wrong w.heap.size (w.heap.size + 1) _ _ _ _ _ _ _ _ _ _ _ _ _ _ _ _ _ [] _ HG.out.1 HG.out.2.1 (by omega)).mono ?_
      rintro e u' w'' ⟨rfl, rfl, qm, qe, ff⟩
      have HE := Lib.hid (MsgAns.no (x := 2) HN.out (HG.out.2.2.trans (ff.below (B := w.heap.size) (fun i hi => by have hi2 : i = w.heap.size ∨ i = w.heap.size + 1 := hi; omega) HG.out.2.2.size)))
      have q0 := mcell (j := 0) qm rfl
      have q1 := mcell (j := 1) qm rfl
      have q2 := mcell (j := 2) qm rfl
      have q3 := mcell (j := 3) qm rfl
      have q4 := mcell (j := 4) qm rfl
      have q5 := mcell (j := 5) qm rfl
      have q6 := mcell (j := 6) qm rfl
      have q7 := mcell (j := 7) qm rfl
      have q8 := mcell (j := 8) qm rfl
      have q9 := mcell (j := 9) qm rfl
      have q10 := mcell (j := 10) qm rfl
      have q11 := mcell (j := 11) qm rfl
      have q12 := mcell (j := 12) qm rfl
      have q13 := mcell (j := 13) qm rfl
      have q14 := mcell (j := 14) qm rfl
      clear ff qm
      simp [Leaves, settle, results, Try.results54, go_sem, qe, q0, q1, q2, q3, q4, q5, q6, q7, q8, q9, q10, q11, q12, q13, q14]
      exact HE.out
end Go.Proofs.Ytgnedaihchmoaaa
