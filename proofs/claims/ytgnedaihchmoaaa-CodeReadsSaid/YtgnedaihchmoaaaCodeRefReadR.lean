/-
  firthref06.Read.Rec: the document's reading of a record.
-/
import Derived.Test.YtgnedaihchmoaaaCodeRefReadRec
namespace Go.Proofs.Ytgnedaihchmoaaa
open Go.RowKit
set_option linter.unusedVariables false

/-- Within a round of the loop over the versions: the version's block, the record's, the answer's, the rows so far. -/
structure VSt (w wc : World) (r g2 g3 g6 : Nat) (A : Option Addr) (n c : Nat) (L : List UInt8) (a : Nat) (bad : Bool) (key : ByteArray) (Ao : Option Addr) (k co : Nat) (rows : List RV) (s m : Int) (p : Value) (gone : Bool) (val : ByteArray) : Prop where
  st : QSt wc r A n c L a bad
  fr : Fr (fun i => i = r) w wc
  b2 : wc.heap[g2]? = some (.cells #[.string ⟨#[]⟩, .slice none 0 0] 48 (0, 0))
  b3 : wc.heap[g3]? = some (.cells #[.string key, .slice Ao k co] 48 (0, 0))
  b6 : wc.heap[g6]? = some (.cells #[.int .i64 s, .int .i64 m, p, .bool gone, .string val] 53 (0, 0))
  own : OwnV wc (g3 + 1) (.slice Ao k co) k rows
  o1 : (Value.slice Ao k co).ownBlock ≠ some g6
  o2 : ∀ y ∈ rows, (Value.slice y.2.1 y.2.2.1 y.2.2.2).ownBlock ≠ some g6
  far : ∀ b off s', 0 < n → A = some ⟨b, off, s'⟩ → b < w.heap.size
  lr : r < w.heap.size
  l2 : w.heap.size ≤ g2
  l3 : g2 < g3
  l6 : g3 < g6
section
variable {w wc wd : World} {r g2 g3 g6 : Nat} {A : Option Addr} {n c : Nat} {L : List UInt8} {a a' : Nat} {bad bad' : Bool} {key : ByteArray} {Ao : Option Addr} {k co : Nat} {rows : List RV} {s m : Int} {p : Value} {gone : Bool} {val : ByteArray}
theorem VSt.call (h : VSt w wc r g2 g3 g6 A n c L a bad key Ao k co rows s m p gone val) (hq : QSt wd r A n c L a' bad') (f : Fr (fun i => i = r) wc wd) : VSt w wd r g2 g3 g6 A n c L a' bad' key Ao k co rows s m p gone val := by
  have h1 := h.lr; have h2 := h.l2; have h3 := h.l3; have h6 := h.l6
  exact ⟨hq, h.fr.on f, (f.block _ (lt_of_block h.b2) (by omega)).trans h.b2, (f.block _ (lt_of_block h.b3) (by omega)).trans h.b3, (f.block _ (lt_of_block h.b6) (by omega)).trans h.b6,
    h.own.keepF f (fun i hi e => by have e2 : i = r := e; omega), h.o1, h.o2, h.far, h.lr, h.l2, h.l3, h.l6⟩
theorem VSt.store (h : VSt w wc r g2 g3 g6 A n c L a bad key Ao k co rows s m p gone val) (j : Nat) (u : Value) {s' m' : Int} {p' : Value} {gone' : Bool} {val' : ByteArray}
    (e : (#[.int .i64 s, .int .i64 m, p, .bool gone, .string val] : Array Value).setIfInBounds j u = #[.int .i64 s', .int .i64 m', p', .bool gone', .string val']) :
    VSt w (wc.setCell ⟨g6, j, none⟩ u) r g2 g3 g6 A n c L a bad key Ao k co rows s' m' p' gone' val' := by
  have h1 := h.lr; have h2 := h.l2; have h3 := h.l3; have h6 := h.l6
  refine ⟨h.st.setOther (by omega) (fun b' off s'' hn ea => by have := h.far b' off s'' hn ea; omega) u, h.fr.put (by omega) u, (Below.heap_setCell wc ⟨g6, j, none⟩ u g2 (by simp only; omega)).trans h.b2, (Below.heap_setCell wc ⟨g6, j, none⟩ u g3 (by simp only; omega)).trans h.b3, ?_,
    h.own.setCell (a := ⟨g6, j, none⟩) h.o1 h.o2 u, h.o1, h.o2, h.far, h.lr, h.l2, h.l3, h.l6⟩
  rw [heap_setCell_same wc g6 j _ _ u h.b6, e]
theorem VSt.spoil (h : VSt w wc r g2 g3 g6 A n c L a bad key Ao k co rows s m p gone val) : VSt w (wc.setCell ⟨r, 2, none⟩ (.bool true)) r g2 g3 g6 A n c L a true key Ao k co rows s m p gone val :=
  h.call h.st.setBad.1 h.st.setBad.2
theorem VSt.start {a0 : Nat} {b0 : Bool} (hq : QSt wc r A n c L a0 b0) (f : Fr (fun i => i = r) w wc) (h2 : wc.heap[g2]? = some (.cells #[.string ⟨#[]⟩, .slice none 0 0] 48 (0, 0))) (h3 : wc.heap[g3]? = some (.cells #[.string key, .slice Ao k co] 48 (0, 0)))
    (ho : OwnV wc (g3 + 1) (.slice Ao k co) k rows) (far : ∀ b off s', 0 < n → A = some ⟨b, off, s'⟩ → b < w.heap.size) (lr : r < w.heap.size) (l2 : w.heap.size ≤ g2) (l3 : g2 < g3) (hg : g6 = wc.heap.size) :
    VSt w (wc.alloc (.cells #[.int .i64 0, .int .i64 0, .slice none 0 0, .bool false, .string ⟨#[]⟩] 53)) r g2 g3 g6 A n c L a0 b0 key Ao k co rows 0 0 (.slice none 0 0) false ⟨#[]⟩ := by
  subst hg
  have b := (Below.refl wc.heap.size wc).alloc (Nat.le_refl _) (.cells #[.int .i64 0, .int .i64 0, .slice none 0 0, .bool false, .string ⟨#[]⟩] 53)
  have fo := ho.far (Nat.le_refl wc.heap.size)
  exact ⟨hq.move b, f.trans (Fr.of_below b (fp := fun i => i = r)) fun _ h => .inl h, (b.block _ (lt_of_block h2)).trans h2, (b.block _ (lt_of_block h3)).trans h3, heap_alloc_new wc _, ho.below b, fo.1, fo.2, far, lr, l2, l3, lt_of_block h3⟩
end
theorem own_set6 {w1 : World} {B g j n : Nat} {v : Value} {xs : List Value} (h : w1.ownsRow B 55 3 v n xs) (hg : g < B) (u : Value) : (w1.setCell ⟨g, j, none⟩ u).ownsRow B 55 3 v n xs :=
  ownsRow_setCell_other h (a := ⟨g, j, none⟩) (own_ne h hg) u
theorem sl_ver' (w : World) (y : RV) (t : TypeId) : Sl (w.alloc (.cells #[.int .i64 y.1.s, .int .i64 y.1.n, .slice y.2.1 y.2.2.1 y.2.2.2, .bool y.1.gone, .string y.1.val] t)) (some ⟨w.heap.size, 0, none⟩) 1 5 (vV1 y) :=
  sl_lit w #[.int .i64 y.1.s, .int .i64 y.1.n, .slice y.2.1 y.2.2.1 y.2.2.2, .bool y.1.gone, .string y.1.val] t w.heap.size 1 5 _ rfl rfl rfl
theorem fr_low {w wc wd : World} {r B : Nat} (f : Fr (fun i => i = r) w wc) (b : Below B wc wd) (hB : w.heap.size ≤ B) : Fr (fun i => i = r) w wd :=
  ⟨b.os.trans f.os, b.tape.trans f.tape, b.output.trans f.output, Nat.le_trans f.size b.size, fun i hi hn => (b.block i (by omega)).trans (f.block i hi hn)⟩
set_option maxHeartbeats 8000000 in
set_option maxRecDepth 100000 in
theorem qrec_one {w : World} {r : Nat} {A : Option Addr} {n c : Nat} {L : List UInt8} {a : Nat} {bad : Bool} (h : QSt w r A n c L a bad) (h9 : n ≤ 1000000000000) :
    Calls Try.prog 61 #[.pointer (some ⟨r, 0, none⟩)] w (QOne (RecV w.heap.size) w r A n c L (gRec okQ L a) bad) := by
  obtain ⟨i0, hi, hz0, hz1, hz2⟩ := info_parts Try.infoVer
  have bA : Below w.heap.size w (w.alloc (.cells #[.string ⟨#[]⟩, .slice none 0 0] 48)) := (Below.refl _ _).alloc (Nat.le_refl _) _
  have FA := Lib.hid (Fr.of_below bA (fp := fun i => i = r))
  have hrl := h.lt
  have hLn := h.len
  have HB := Lib.hid h.blk
  have X0 := Lib.hid (heap_alloc_new w (.cells #[.string ⟨#[]⟩, .slice none 0 0] 48))
  have C1 := Lib.hid (qtext_one (h.move bA))
  clear h bA
  go_enter Try.func61, Try.ntmps61
  go_wp2_with fail
  refine C1.out.mono ?_
  rintro e w1 ⟨_, key, a1, b1, rfl, ⟨rfl, hk32⟩, h1, f1, q1⟩
  have F1 := Lib.hid (FA.out.on f1)
  have hX1 := (f1.block _ (lt_of_block X0.out) (by omega)).trans X0.out
  have hw1 := lt_of_block hX1
  have bB : Below w1.heap.size w1 (w1.alloc (.cells #[.string key, .slice none 0 0] 48)) := (Below.refl _ _).alloc (Nat.le_refl _) _
  have X1 := Lib.hid ((bB.block _ hw1).trans hX1)
  have X3 := Lib.hid (heap_alloc_new w1 (.cells #[.string key, .slice none 0 0] 48))
  have FB := Lib.hid (F1.out.trans (Fr.of_below bB (fp := fun i => i = r)) fun _ h => .inl h)
  obtain ⟨O, hOO⟩ : ∃ O, startO (gRec okQ L a) bad = O := ⟨_, rfl⟩
  have HG1 := ((show QG (startO (gRec okQ L a) bad) bad (bindP gText (fun k a1 => bindP (pTake (gVer okQ)) (fun vs a2 => some ((⟨k, vs⟩ : Rc), a2)) L a1) L a) from QG.start _ _).step q1).count
  rw [hOO] at HG1
  have C2 := Lib.hid (qcount_any (h1.move bB))
  have hsp := qCount_spec (gVer okQ) L a1 b1
  obtain ⟨q, hq⟩ : ∃ q, qCount L a1 b1 = q := ⟨_, rfl⟩
  rw [hq] at C2 hsp HG1
  obtain ⟨m, a2, b2⟩ := q
  simp only at hsp HG1
  have hm : m ≤ n := by
    cases b2
    · have := (hsp.2 rfl).2.1; omega
    · have := (hsp.1 rfl).1; omega
  have HG2 := Lib.hid HG1
  clear hsp HG1 hq q1 h1 f1 hX1 bB C1 X0 FA F1
  go_wp2_with fail
  refine C2.out.mono ?_
  rintro e w2 ⟨rfl, h2, f2⟩
  simp only at h2
  have H2 := Lib.hid h2
  have F2 := Lib.hid (FB.out.on f2)
  have X22 := Lib.hid ((f2.block _ (lt_of_block X1.out) (by omega)).trans X1.out)
  have X33 := Lib.hid ((f2.block _ (lt_of_block X3.out) (by omega)).trans X3.out)
  have hw2 := lt_of_block X33.out
  clear h2 f2 C2 X1 X3 FB
  go_wp2
  go_loopw [5] (fun i wr => ∃ (k a3 co : Nat) (bd : Bool) (Ao : Option Addr) (rows : List RV), i = .int .i64 (k : Int) ∧ k ≤ m ∧ Hid (QL (gVer okQ) (fun vs a2 => some ((⟨key, vs⟩ : Rc), a2)) L O m a2 bd k a3 (rows.map (·.1))) ∧ Hid (OwnV wr (w1.heap.size + 1) (.slice Ao k co) k rows) ∧
    Hid (wr.heap[w1.heap.size]? = some (.cells #[.string key, .slice Ao k co] 48 (0, 0))) ∧ Hid (wr.heap[w.heap.size]? = some (.cells #[.string ⟨#[]⟩, .slice none 0 0] 48 (0, 0))) ∧ Hid (QSt wr r A n c L a3 bd) ∧ Hid (Fr (fun i => i = r) w wr)) (fun i _ => m - (intOf i).toNat)
  case atStart => exact ⟨0, a2, 0, b2, none, [], rfl, Nat.zero_le _, QL.start HG2.out, OwnV.nil _ _, X33, X22, H2, F2⟩
  case round =>
    obtain ⟨k, a3, co, bd, Ao, rows, rfl, hk, HL, HO, X3, X2, HR, HF⟩ := hrel
    clear X33 X22 H2 F2 HG2
    have cb := HR.out.c2
    have hw3 := lt_of_block X3.out
    by_cases hlt : k < m
    · cases bd with
      | true => 
        have HGX := Lib.hid HL.out.spoilt
        have p0 := row_cell (j := 0) X3.out rfl
        have p1 := row_cell (j := 1) X3.out rfl
        have x0 := row_cell (j := 0) X2.out rfl
        have x1 := row_cell (j := 1) X2.out rfl
        have z0 := frozen_of_row wr w.heap.size 0 _ _ X2.out
        have z1 := frozen_of_row wr w.heap.size 1 _ _ X2.out
        have k1 := heap_setCell_same _ w.heap.size 1 _ _ (.slice Ao k co) (heap_setCell_same wr w.heap.size 0 _ _ (.string key) X2.out)
        have y0 := row_cell (j := 0) k1 rfl
        have y1 := row_cell (j := 1) k1 rfl
        have HY := Lib.hid (And.intro y0 y1)
        have hfar : ∀ b' off s', 0 < n → A = some ⟨b', off, s'⟩ → b' ≠ w.heap.size := fun b' off s' hn e => by have := HB.out b' off s' hn e; omega
        have hlen := HO.out.len
        have hln2 : (rows.map (·.1)).length = k := by rw [List.length_map]; exact hlen
        have hcap := own_cap HO.out.1
        have OF := ((HO.out.set (g := w.heap.size) (j := 0) (by omega) (.string key)).set (g := w.heap.size) (j := 1) (by omega) (.slice Ao k co)).lower (show w.heap.size ≤ w1.heap.size + 1 by omega)
        have HE := Lib.hid (show QOne (RecV w.heap.size) w r A n c L (gRec okQ L a) bad (.returned (.agg #[.string key, .slice Ao k co])) ((wr.setCell ⟨w.heap.size, 0, none⟩ (.string key)).setCell ⟨w.heap.size, 1, none⟩ (.slice Ao k co)) from
          ⟨_, ⟨key, rows.map (·.1)⟩, a3, _, rfl, ⟨rows, Ao, co, by simp only [hln2], rfl, by simp only [hln2]; exact OF, by simp only [hln2]; exact hcap, hk32, by simp only [hln2]; omega⟩,
            (HR.out.setOther (b := w.heap.size) (j := 0) (by omega) hfar _).setOther (b := w.heap.size) (j := 1) (by omega) hfar _, (HF.out.put (Nat.le_refl _) _).put (Nat.le_refl _) _, by have hg := HGX.out; rw [← hOO] at hg; exact hg.res⟩)
        clear k1 y0 y1 hfar OF HGX hcap hln2 hlen
        go_wp2
        obtain ⟨y0, y1⟩ := HY.out
        refine bodyPost_ret (v := .agg #[.string key, .slice Ao k co]) ?_ rfl HE.out
        simp [results, Try.results61, go_sem, y0, y1]
      | false =>
        have HV := Lib.hid (VSt.start HR.out HF.out X2.out X3.out HO.out HB.out hrl (Nat.le_refl _) hw1 rfl)
        have C3 := Lib.hid (qnum_int HV.out.st)
        have HG := Lib.hid (show QG (startO (gVer okQ L a3) false) false (bindP gInt (fun s a1 => bindP gInt (fun n a2 => bindP (pTake (gSpan okQ)) (fun past a3 => gTail s n past L a3) L a2) L a1) L a3) from QG.start _ _)
        clear X2 X3 HR HF HO
        go_wp2_with fail
        refine C3.out.mono ?_
        rintro e w3 ⟨_, s, a4, b4, rfl, ⟨rfl, hs0, hs1⟩, h3, f3, q3⟩
        have HV3 := HV.out.call h3 f3
        have u0 := row_cell (j := 0) HV3.b6 rfl
        have z0 := frozen_of_row w3 wr.heap.size 0 _ _ HV3.b6
        have HV4 := Lib.hid (HV3.store 0 (.int .i64 s) rfl)
        have HG4 := Lib.hid (HG.out.step q3)
        have C4 := Lib.hid (qnum_int HV4.out.st)
        clear h3 f3 q3 C3 HG HV HV3
        go_wp2_with fail
        refine C4.out.mono ?_
        rintro e w4 ⟨_, vn, a5, b5, rfl, ⟨rfl, hn0, hn1⟩, h4, f4, q4⟩
        have HV5 := HV4.out.call h4 f4
        have u1 := row_cell (j := 1) HV5.b6 rfl
        have z1 := frozen_of_row w4 wr.heap.size 1 _ _ HV5.b6
        have HV6 := Lib.hid (HV5.store 1 (.int .i64 vn) rfl)
        have HG5 := Lib.hid (HG4.out.step q4)
        have C5 := Lib.hid (qspans_any HV6.out.st (by omega))
        clear h4 f4 q4 C4 HG4 HV4 HV5 u0 z0
        go_wp2_with fail
        refine C5.out.mono ?_
        rintro e w5 ⟨v5, past, a6, b6, rfl, ⟨hP, hwf, hpl⟩, h5, f5, q5⟩
        obtain ⟨Ap, cp, rfl, hcp, -⟩ := own_slice hP
        have HV7 := HV6.out.call h5 f5
        have hs6 := lt_of_block HV6.out.b6
        have u2 := row_cell (j := 2) HV7.b6 rfl
        have z2 := frozen_of_row w5 wr.heap.size 2 _ _ HV7.b6
        have HV8 := Lib.hid (HV7.store 2 (.slice Ap past.length cp) rfl)
        have HG6 := Lib.hid (HG5.out.step q5)
        have HP5 := Lib.hid (own_set6 (j := 2) (own_lower hP (show wr.heap.size + 1 ≤ _ by omega)) (show wr.heap.size < wr.heap.size + 1 by omega) (.slice Ap past.length cp))
        have HWF := Lib.hid hwf
        have C6 := Lib.hid (qnum_nat HV8.out.st)
        clear h5 f5 q5 C5 HG5 HV6 HV7 u1 z1 hP hwf hs6
        go_wp2_with fail
        refine C6.out.mono ?_
        rintro e w6 ⟨_, kk, a7, b7, rfl, ⟨rfl, hkk⟩, h6, f6, q6⟩
        have HV9 := Lib.hid (HV8.out.call h6 f6)
        have HG7 := Lib.hid (HG6.out.step q6)
        have HP6 := Lib.hid (own_keepF HP5.out f6 (fun i hi e => by have e2 : i = r := e; have := HV8.out.lr; omega))
        clear h6 f6 q6 C6 HG6 HV8 HP5 u2 z2
        rcases (show kk = 0 ∨ kk = 1 ∨ 1 < kk by omega) with h0 | h0 | h0
        · subst h0
          have C7 := Lib.hid (qtext_one HV9.out.st)
          go_wp2_with fail
          refine C7.out.mono ?_
          rintro e w7 ⟨_, val, a8, b8, rfl, ⟨rfl, hval⟩, h7, f7, q7⟩
          have HVa := HV9.out.call h7 f7
          have HVb := HVa.store 4 (.string val) rfl
          have u4 := row_cell (j := 4) HVa.b6 rfl
          have z4 := frozen_of_row w7 wr.heap.size 4 _ _ HVa.b6
          have u3 := row_cell (j := 3) HVb.b6 rfl
          have z3 := frozen_of_row _ wr.heap.size 3 _ _ HVb.b6
          have HVF := Lib.hid (HVb.store 3 (.bool false) rfl)
          have HP := Lib.hid (own_set6 (j := 3) (own_set6 (j := 4) (own_keepF HP6.out f7 (fun i hi e => by have e2 : i = r := e; have := HV9.out.lr; omega)) (show wr.heap.size < wr.heap.size + 1 by omega) (.string val)) (show wr.heap.size < wr.heap.size + 1 by omega) (.bool false))
          have hg7 : QG (startO (gVer okQ L a3) false) b7 (bindP gText (fun t a2 => some ((⟨s, vn, past, false, t⟩ : Vr), a2)) L a7) := HG7.out
          have HQR := Lib.hid (hg7.step q7).res
          clear h7 f7 q7 C7 HV9 HP6 HG7 HVa HVb hg7
          have c31 := row_cell (j := 1) HVF.out.b3 rfl
          have v60 := row_cell (j := 0) HVF.out.b6 rfl
          have v61 := row_cell (j := 1) HVF.out.b6 rfl
          have v62 := row_cell (j := 2) HVF.out.b6 rfl
          have v63 := row_cell (j := 3) HVF.out.b6 rfl
          have v64 := row_cell (j := 4) HVF.out.b6 rfl
          have hsW := lt_of_block HVF.out.b6
          have hsW3 := lt_of_block HVF.out.b3
          have HFIX := Lib.hid (show VFix ⟨s, vn, past, false, val⟩ past.length cp from ⟨hcp, by omega, ⟨wf_i64 (by simp only; omega) (by simp only; omega), wf_i64 (by simp only; omega) (by simp only; omega)⟩, HWF.out, by simp only; first | omega | decide⟩)
          obtain ⟨wz, hwz⟩ : ∃ wz, ((w7.setCell ⟨wr.heap.size, 4, none⟩ (.string val)).setCell ⟨wr.heap.size, 3, none⟩ (.bool false)) = wz := ⟨_, rfl⟩
          rw [hwz] at HVF HP c31 v60 v61 v62 v63 v64 hsW hsW3
          go_wp2_with (first | (at_builtin; refine wpList_append_sl _ rfl (.tmp 53) (.tmp 55) 46 rfl ((w1.heap.size + 1)) 53 i0 (.agg #[.int .i64 0, .int .i64 0, .slice none 0 0, .bool false, .string ⟨#[]⟩]) 5 64 Try.underlying46 hi hz0 hz1 hz2 rfl (by decide) (_) (k) (rows.flatMap vV1) rfl ((HVF.out.own.1.alloc _)) (some ⟨wz.heap.size, 0, none⟩) (1) (1) (vV1 ((⟨s, vn, past, false, val⟩ : Vr), Ap, past.length, cp)) rfl (sl_ver' wz ((⟨s, vn, past, false, val⟩ : Vr), Ap, past.length, cp) _) ((vV1_one _)) (by unfold maxLen; omega) (by omega) ((by simp; omega)) ?_) | fail)
          intro v8 w8 own8 g8 _
          obtain ⟨A8, c8, rfl, -, -⟩ := own_slice own8
          have hG := HVF.out.own.alloc (.cells #[.int .i64 s, .int .i64 vn, .slice Ap past.length cp, .bool false, .string val] 53)
          have bq8 : Below (w1.heap.size + 1) wz w8 := ((Below.refl _ wz).alloc (by omega) _).grown g8 (by simp; omega) (fun q hq => (hG.1.lt q hq).1)
          have HPz := World.ownsRow.alloc (own_lower HP.out (show w1.heap.size + 1 ≤ wr.heap.size + 1 by omega)) (.cells #[.int .i64 s, .int .i64 vn, .slice Ap past.length cp, .bool false, .string val] 53)
          have hON := OwnV.push (y := ((⟨s, vn, past, false, val⟩ : Vr), Ap, past.length, cp)) hG HPz HFIX.out own8 g8
          have X38 := (bq8.block w1.heap.size (by omega)).trans HVF.out.b3
          have c38 := row_cell (j := 1) X38 rfl
          have z38 := frozen_of_row w8 w1.heap.size 1 _ _ X38
          have X3N := Lib.hid (show (w8.setCell ⟨w1.heap.size, 1, none⟩ (.slice A8 (k + 1) c8)).heap[w1.heap.size]? = some (.cells #[.string key, .slice A8 (k + 1) c8] 48 (0, 0)) from heap_setCell_same w8 w1.heap.size 1 _ _ (.slice A8 (k + 1) c8) X38)
          have X2N := Lib.hid ((Below.heap_setCell w8 ⟨w1.heap.size, 1, none⟩ (.slice A8 (k + 1) c8) w.heap.size (by simp only; omega)).trans ((bq8.block w.heap.size (by omega)).trans HVF.out.b2))
          have HRN := Lib.hid ((HVF.out.st.moveB (B := w1.heap.size + 1) (by omega) (fun b' off s' hn e => by have := HB.out b' off s' hn e; omega) bq8).setOther (b := w1.heap.size) (j := 1) (by omega) (fun b' off s' hn e => by have := HB.out b' off s' hn e; omega) (.slice A8 (k + 1) c8))
          have HFN := Lib.hid ((fr_low HVF.out.fr bq8 (by omega)).put (b := w1.heap.size) (j := 1) (by omega) (.slice A8 (k + 1) c8))
          have HONN := Lib.hid (hON.set (g := w1.heap.size) (j := 1) (by omega) (.slice A8 (k + 1) c8))
          have HLN := Lib.hid (show QL (gVer okQ) (fun vs a2 => some ((⟨key, vs⟩ : Rc), a2)) L O m a2 b8 (k + 1) a8 ((rows ++ [((⟨s, vn, past, false, val⟩ : Vr), Ap, past.length, cp)]).map (·.1)) from by rw [List.map_append]; exact HL.out.step hlt HQR.out)
          clear own8 g8 hG bq8 HPz hON X38 HVF HP HFIX HQR HL hwz c31 v60 v61 v62 v63 v64 hsW hsW3
          go_wp2
          go_roundw
          case rel => exact ⟨k + 1, a8, c8, b8, A8, _, by go_num, by omega, HLN, HONN, X3N, X2N, HRN, HFN⟩
          case measure => simp [intOf]; omega
        · subst h0
          have u3 := row_cell (j := 3) HV9.out.b6 rfl
          have z3 := frozen_of_row w6 wr.heap.size 3 _ _ HV9.out.b6
          have HVF := Lib.hid (HV9.out.store 3 (.bool true) rfl)
          have HP := Lib.hid (own_set6 (j := 3) HP6.out (show wr.heap.size < wr.heap.size + 1 by omega) (.bool true))
          have hg7 : QG (startO (gVer okQ L a3) false) b7 (some ((⟨s, vn, past, true, ByteArray.empty⟩ : Vr), a7)) := HG7.out
          have HQR := Lib.hid hg7.res
          clear HV9 HP6 HG7 hg7
          have c31 := row_cell (j := 1) HVF.out.b3 rfl
          have v60 := row_cell (j := 0) HVF.out.b6 rfl
          have v61 := row_cell (j := 1) HVF.out.b6 rfl
          have v62 := row_cell (j := 2) HVF.out.b6 rfl
          have v63 := row_cell (j := 3) HVF.out.b6 rfl
          have v64 := row_cell (j := 4) HVF.out.b6 rfl
          have hsW := lt_of_block HVF.out.b6
          have hsW3 := lt_of_block HVF.out.b3
          have HFIX := Lib.hid (show VFix ⟨s, vn, past, true, ⟨#[]⟩⟩ past.length cp from ⟨hcp, by omega, ⟨wf_i64 (by simp only; omega) (by simp only; omega), wf_i64 (by simp only; omega) (by simp only; omega)⟩, HWF.out, by simp only; first | omega | decide⟩)
          obtain ⟨wz, hwz⟩ : ∃ wz, (w6.setCell ⟨wr.heap.size, 3, none⟩ (.bool true)) = wz := ⟨_, rfl⟩
          rw [hwz] at HVF HP c31 v60 v61 v62 v63 v64 hsW hsW3
          go_wp2_with (first | (at_builtin; refine wpList_append_sl _ rfl (.tmp 53) (.tmp 55) 46 rfl ((w1.heap.size + 1)) 53 i0 (.agg #[.int .i64 0, .int .i64 0, .slice none 0 0, .bool false, .string ⟨#[]⟩]) 5 64 Try.underlying46 hi hz0 hz1 hz2 rfl (by decide) (_) (k) (rows.flatMap vV1) rfl ((HVF.out.own.1.alloc _)) (some ⟨wz.heap.size, 0, none⟩) (1) (1) (vV1 ((⟨s, vn, past, true, ⟨#[]⟩⟩ : Vr), Ap, past.length, cp)) rfl (sl_ver' wz ((⟨s, vn, past, true, ⟨#[]⟩⟩ : Vr), Ap, past.length, cp) _) ((vV1_one _)) (by unfold maxLen; omega) (by omega) ((by simp; omega)) ?_) | fail)
          intro v8 w8 own8 g8 _
          obtain ⟨A8, c8, rfl, -, -⟩ := own_slice own8
          have hG := HVF.out.own.alloc (.cells #[.int .i64 s, .int .i64 vn, .slice Ap past.length cp, .bool true, .string ⟨#[]⟩] 53)
          have bq8 : Below (w1.heap.size + 1) wz w8 := ((Below.refl _ wz).alloc (by omega) _).grown g8 (by simp; omega) (fun q hq => (hG.1.lt q hq).1)
          have HPz := World.ownsRow.alloc (own_lower HP.out (show w1.heap.size + 1 ≤ wr.heap.size + 1 by omega)) (.cells #[.int .i64 s, .int .i64 vn, .slice Ap past.length cp, .bool true, .string ⟨#[]⟩] 53)
          have hON := OwnV.push (y := ((⟨s, vn, past, true, ⟨#[]⟩⟩ : Vr), Ap, past.length, cp)) hG HPz HFIX.out own8 g8
          have X38 := (bq8.block w1.heap.size (by omega)).trans HVF.out.b3
          have c38 := row_cell (j := 1) X38 rfl
          have z38 := frozen_of_row w8 w1.heap.size 1 _ _ X38
          have X3N := Lib.hid (show (w8.setCell ⟨w1.heap.size, 1, none⟩ (.slice A8 (k + 1) c8)).heap[w1.heap.size]? = some (.cells #[.string key, .slice A8 (k + 1) c8] 48 (0, 0)) from heap_setCell_same w8 w1.heap.size 1 _ _ (.slice A8 (k + 1) c8) X38)
          have X2N := Lib.hid ((Below.heap_setCell w8 ⟨w1.heap.size, 1, none⟩ (.slice A8 (k + 1) c8) w.heap.size (by simp only; omega)).trans ((bq8.block w.heap.size (by omega)).trans HVF.out.b2))
          have HRN := Lib.hid ((HVF.out.st.moveB (B := w1.heap.size + 1) (by omega) (fun b' off s' hn e => by have := HB.out b' off s' hn e; omega) bq8).setOther (b := w1.heap.size) (j := 1) (by omega) (fun b' off s' hn e => by have := HB.out b' off s' hn e; omega) (.slice A8 (k + 1) c8))
          have HFN := Lib.hid ((fr_low HVF.out.fr bq8 (by omega)).put (b := w1.heap.size) (j := 1) (by omega) (.slice A8 (k + 1) c8))
          have HONN := Lib.hid (hON.set (g := w1.heap.size) (j := 1) (by omega) (.slice A8 (k + 1) c8))
          have HLN := Lib.hid (show QL (gVer okQ) (fun vs a2 => some ((⟨key, vs⟩ : Rc), a2)) L O m a2 b7 (k + 1) a7 ((rows ++ [((⟨s, vn, past, true, ⟨#[]⟩⟩ : Vr), Ap, past.length, cp)]).map (·.1)) from by rw [List.map_append]; exact HL.out.step hlt HQR.out)
          clear own8 g8 hG bq8 HPz hON X38 HVF HP HFIX HQR HL hwz c31 v60 v61 v62 v63 v64 hsW hsW3
          go_wp2
          go_roundw
          case rel => exact ⟨k + 1, a7, c8, b7, A8, _, by go_num, by omega, HLN, HONN, X3N, X2N, HRN, HFN⟩
          case measure => simp [intOf]; omega
        · have t1 : ((kk : Int) == 0) = false := by rw [beq_eq_false_iff_ne]; omega
          have t2 : ((kk : Int) == 1) = false := by rw [beq_eq_false_iff_ne]; omega
          have u3 := row_cell (j := 3) HV9.out.b6 rfl
          have z3 := frozen_of_row w6 wr.heap.size 3 _ _ HV9.out.b6
          have HVb := HV9.out.store 3 (.bool false) rfl
          have ur := HVb.st.c2
          have zr := HVb.st.fr 2
          have HVF := Lib.hid HVb.spoil
          have hr6 : r < wr.heap.size + 1 := by have a1 := HV9.out.lr; have a2 := HV9.out.l2; have a3 := HV9.out.l3; have a4 := HV9.out.l6; omega
          have hP7 := own_set6 (j := 3) HP6.out (show wr.heap.size < wr.heap.size + 1 by omega) (.bool false)
          have HP := Lib.hid (own_set6 (g := r) (j := 2) hP7 hr6 (.bool true))
          have hg7 : QG (startO (gVer okQ L a3) false) b7 (if kk = 0 then _ else if kk = 1 then _ else none) := HG7.out
          rw [if_neg (by omega), if_neg (by omega)] at hg7
          have HQR := Lib.hid ((hg7.spoil (y := some ((⟨s, vn, past, false, ⟨#[]⟩⟩ : Vr), a7))).res)
          clear HV9 HP6 HG7 hg7 HVb hP7
          have c31 := row_cell (j := 1) HVF.out.b3 rfl
          have v60 := row_cell (j := 0) HVF.out.b6 rfl
          have v61 := row_cell (j := 1) HVF.out.b6 rfl
          have v62 := row_cell (j := 2) HVF.out.b6 rfl
          have v63 := row_cell (j := 3) HVF.out.b6 rfl
          have v64 := row_cell (j := 4) HVF.out.b6 rfl
          have hsW := lt_of_block HVF.out.b6
          have hsW3 := lt_of_block HVF.out.b3
          have HFIX := Lib.hid (show VFix ⟨s, vn, past, false, ⟨#[]⟩⟩ past.length cp from ⟨hcp, by omega, ⟨wf_i64 (by simp only; omega) (by simp only; omega), wf_i64 (by simp only; omega) (by simp only; omega)⟩, HWF.out, by simp only; first | omega | decide⟩)
          obtain ⟨wz, hwz⟩ : ∃ wz, ((w6.setCell ⟨wr.heap.size, 3, none⟩ (.bool false)).setCell ⟨r, 2, none⟩ (.bool true)) = wz := ⟨_, rfl⟩
          rw [hwz] at HVF HP c31 v60 v61 v62 v63 v64 hsW hsW3
          go_wp2_with (first | (at_builtin; refine wpList_append_sl _ rfl (.tmp 53) (.tmp 55) 46 rfl ((w1.heap.size + 1)) 53 i0 (.agg #[.int .i64 0, .int .i64 0, .slice none 0 0, .bool false, .string ⟨#[]⟩]) 5 64 Try.underlying46 hi hz0 hz1 hz2 rfl (by decide) (_) (k) (rows.flatMap vV1) rfl ((HVF.out.own.1.alloc _)) (some ⟨wz.heap.size, 0, none⟩) (1) (1) (vV1 ((⟨s, vn, past, false, ⟨#[]⟩⟩ : Vr), Ap, past.length, cp)) rfl (sl_ver' wz ((⟨s, vn, past, false, ⟨#[]⟩⟩ : Vr), Ap, past.length, cp) _) ((vV1_one _)) (by unfold maxLen; omega) (by omega) ((by simp; omega)) ?_) | fail)
          intro v8 w8 own8 g8 _
          obtain ⟨A8, c8, rfl, -, -⟩ := own_slice own8
          have hG := HVF.out.own.alloc (.cells #[.int .i64 s, .int .i64 vn, .slice Ap past.length cp, .bool false, .string ⟨#[]⟩] 53)
          have bq8 : Below (w1.heap.size + 1) wz w8 := ((Below.refl _ wz).alloc (by omega) _).grown g8 (by simp; omega) (fun q hq => (hG.1.lt q hq).1)
          have HPz := World.ownsRow.alloc (own_lower HP.out (show w1.heap.size + 1 ≤ wr.heap.size + 1 by omega)) (.cells #[.int .i64 s, .int .i64 vn, .slice Ap past.length cp, .bool false, .string ⟨#[]⟩] 53)
          have hON := OwnV.push (y := ((⟨s, vn, past, false, ⟨#[]⟩⟩ : Vr), Ap, past.length, cp)) hG HPz HFIX.out own8 g8
          have X38 := (bq8.block w1.heap.size (by omega)).trans HVF.out.b3
          have c38 := row_cell (j := 1) X38 rfl
          have z38 := frozen_of_row w8 w1.heap.size 1 _ _ X38
          have X3N := Lib.hid (show (w8.setCell ⟨w1.heap.size, 1, none⟩ (.slice A8 (k + 1) c8)).heap[w1.heap.size]? = some (.cells #[.string key, .slice A8 (k + 1) c8] 48 (0, 0)) from heap_setCell_same w8 w1.heap.size 1 _ _ (.slice A8 (k + 1) c8) X38)
          have X2N := Lib.hid ((Below.heap_setCell w8 ⟨w1.heap.size, 1, none⟩ (.slice A8 (k + 1) c8) w.heap.size (by simp only; omega)).trans ((bq8.block w.heap.size (by omega)).trans HVF.out.b2))
          have HRN := Lib.hid ((HVF.out.st.moveB (B := w1.heap.size + 1) (by omega) (fun b' off s' hn e => by have := HB.out b' off s' hn e; omega) bq8).setOther (b := w1.heap.size) (j := 1) (by omega) (fun b' off s' hn e => by have := HB.out b' off s' hn e; omega) (.slice A8 (k + 1) c8))
          have HFN := Lib.hid ((fr_low HVF.out.fr bq8 (by omega)).put (b := w1.heap.size) (j := 1) (by omega) (.slice A8 (k + 1) c8))
          have HONN := Lib.hid (hON.set (g := w1.heap.size) (j := 1) (by omega) (.slice A8 (k + 1) c8))
          have HLN := Lib.hid (show QL (gVer okQ) (fun vs a2 => some ((⟨key, vs⟩ : Rc), a2)) L O m a2 true (k + 1) a7 ((rows ++ [((⟨s, vn, past, false, ⟨#[]⟩⟩ : Vr), Ap, past.length, cp)]).map (·.1)) from by rw [List.map_append]; exact HL.out.step hlt HQR.out)
          clear own8 g8 hG bq8 HPz hON X38 HVF HP HFIX HQR HL hwz c31 v60 v61 v62 v63 v64 hsW hsW3
          go_wp2
          go_roundw
          case rel => exact ⟨k + 1, a7, c8, true, A8, _, by go_num, by omega, HLN, HONN, X3N, X2N, HRN, HFN⟩
          case measure => simp [intOf]; omega
    · obtain rfl : k = m := by omega
      cases bd with
      | true => 
        have HGX := Lib.hid HL.out.spoilt
        have p0 := row_cell (j := 0) X3.out rfl
        have p1 := row_cell (j := 1) X3.out rfl
        have x0 := row_cell (j := 0) X2.out rfl
        have x1 := row_cell (j := 1) X2.out rfl
        have z0 := frozen_of_row wr w.heap.size 0 _ _ X2.out
        have z1 := frozen_of_row wr w.heap.size 1 _ _ X2.out
        have k1 := heap_setCell_same _ w.heap.size 1 _ _ (.slice Ao k co) (heap_setCell_same wr w.heap.size 0 _ _ (.string key) X2.out)
        have y0 := row_cell (j := 0) k1 rfl
        have y1 := row_cell (j := 1) k1 rfl
        have HY := Lib.hid (And.intro y0 y1)
        have hfar : ∀ b' off s', 0 < n → A = some ⟨b', off, s'⟩ → b' ≠ w.heap.size := fun b' off s' hn e => by have := HB.out b' off s' hn e; omega
        have hlen := HO.out.len
        have hln2 : (rows.map (·.1)).length = k := by rw [List.length_map]; exact hlen
        have hcap := own_cap HO.out.1
        have OF := ((HO.out.set (g := w.heap.size) (j := 0) (by omega) (.string key)).set (g := w.heap.size) (j := 1) (by omega) (.slice Ao k co)).lower (show w.heap.size ≤ w1.heap.size + 1 by omega)
        have HE := Lib.hid (show QOne (RecV w.heap.size) w r A n c L (gRec okQ L a) bad (.returned (.agg #[.string key, .slice Ao k co])) ((wr.setCell ⟨w.heap.size, 0, none⟩ (.string key)).setCell ⟨w.heap.size, 1, none⟩ (.slice Ao k co)) from
          ⟨_, ⟨key, rows.map (·.1)⟩, a3, _, rfl, ⟨rows, Ao, co, by simp only [hln2], rfl, by simp only [hln2]; exact OF, by simp only [hln2]; exact hcap, hk32, by simp only [hln2]; omega⟩,
            (HR.out.setOther (b := w.heap.size) (j := 0) (by omega) hfar _).setOther (b := w.heap.size) (j := 1) (by omega) hfar _, (HF.out.put (Nat.le_refl _) _).put (Nat.le_refl _) _, by have hg := HGX.out; rw [← hOO] at hg; exact hg.res⟩)
        clear k1 y0 y1 hfar OF HGX hcap hln2 hlen
        go_wp2
        obtain ⟨y0, y1⟩ := HY.out
        refine bodyPost_ret (v := .agg #[.string key, .slice Ao k co]) ?_ rfl HE.out
        simp [results, Try.results61, go_sem, y0, y1]
      | false => 
        have HGX := Lib.hid HL.out.fin
        have p0 := row_cell (j := 0) X3.out rfl
        have p1 := row_cell (j := 1) X3.out rfl
        have x0 := row_cell (j := 0) X2.out rfl
        have x1 := row_cell (j := 1) X2.out rfl
        have z0 := frozen_of_row wr w.heap.size 0 _ _ X2.out
        have z1 := frozen_of_row wr w.heap.size 1 _ _ X2.out
        have k1 := heap_setCell_same _ w.heap.size 1 _ _ (.slice Ao k co) (heap_setCell_same wr w.heap.size 0 _ _ (.string key) X2.out)
        have y0 := row_cell (j := 0) k1 rfl
        have y1 := row_cell (j := 1) k1 rfl
        have HY := Lib.hid (And.intro y0 y1)
        have hfar : ∀ b' off s', 0 < n → A = some ⟨b', off, s'⟩ → b' ≠ w.heap.size := fun b' off s' hn e => by have := HB.out b' off s' hn e; omega
        have hlen := HO.out.len
        have hln2 : (rows.map (·.1)).length = k := by rw [List.length_map]; exact hlen
        have hcap := own_cap HO.out.1
        have OF := ((HO.out.set (g := w.heap.size) (j := 0) (by omega) (.string key)).set (g := w.heap.size) (j := 1) (by omega) (.slice Ao k co)).lower (show w.heap.size ≤ w1.heap.size + 1 by omega)
        have HE := Lib.hid (show QOne (RecV w.heap.size) w r A n c L (gRec okQ L a) bad (.returned (.agg #[.string key, .slice Ao k co])) ((wr.setCell ⟨w.heap.size, 0, none⟩ (.string key)).setCell ⟨w.heap.size, 1, none⟩ (.slice Ao k co)) from
          ⟨_, ⟨key, rows.map (·.1)⟩, a3, _, rfl, ⟨rows, Ao, co, by simp only [hln2], rfl, by simp only [hln2]; exact OF, by simp only [hln2]; exact hcap, hk32, by simp only [hln2]; omega⟩,
            (HR.out.setOther (b := w.heap.size) (j := 0) (by omega) hfar _).setOther (b := w.heap.size) (j := 1) (by omega) hfar _, (HF.out.put (Nat.le_refl _) _).put (Nat.le_refl _) _, by have hg := HGX.out; rw [← hOO] at hg; exact hg.res⟩)
        clear k1 y0 y1 hfar OF HGX hcap hln2 hlen
        go_wp2
        obtain ⟨y0, y1⟩ := HY.out
        refine bodyPost_ret (v := .agg #[.string key, .slice Ao k co]) ?_ rfl HE.out
        simp [results, Try.results61, go_sem, y0, y1]
end Go.Proofs.Ytgnedaihchmoaaa
