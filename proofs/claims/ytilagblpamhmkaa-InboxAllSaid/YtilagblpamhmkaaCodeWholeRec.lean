/-
  firth/code.whole at a record: the deferred closure that takes a panic up, and code.Rec.
-/
import Derived.Test.YtilagblpamhmkaaMF
import Derived.Test.YtilagblpamhmkaaCodeRight
import Derived.Test.YtilagblpamhmkaaMG
import Derived.Test.YtilagblpamhmkaaCodeCatchRec
namespace Go.Proofs.Ytilagblpamhmkaa
open Go.RowKit
set_option linter.unusedVariables false

/-- What Rec answers. -/
def RecAns (w : World) (o : Option Rc) (e : Ending) (w' : World) : Prop :=
  match o with
  | some x => ∃ v, e = .returned (.tuple #[v, .int .i64 0]) ∧ RecV w.heap.size w' x v ∧ Below w.heap.size w w'
  | none => e = .returned (.tuple #[.agg #[.string ⟨#[]⟩, .slice none 0 0], .int .i64 2]) ∧ Below w.heap.size w w'
theorem RecAns.no {w w' : World} {o : Option Rc} (ho : o = none) (b : Below w.heap.size w w') : RecAns w o (.returned (.tuple #[.agg #[.string ⟨#[]⟩, .slice none 0 0], .int .i64 2])) w' := by rw [ho]; exact ⟨rfl, b⟩
theorem RecAns.yes {w w' : World} {o : Option Rc} {x : Rc} {v : Value} (ho : o = some x) (h : RecV w.heap.size w' x v) (b : Below w.heap.size w w') : RecAns w o (.returned (.tuple #[v, .int .i64 0])) w' := by rw [ho]; exact ⟨v, rfl, h, b⟩
theorem recR_no1 {ok : Nat → Nat → Bool} {L : List UInt8} (h : gRec ok L 0 = none) : recR ok L = none := by unfold recR; rw [h]
theorem recR_no2 {ok : Nat → Nat → Bool} {L : List UInt8} {l : Rc} {a : Nat} (h : gRec ok L 0 = some (l, a)) (hn : ¬ (a = L.length ∧ rightR l = true)) : recR ok L = none := by unfold recR; rw [h]; exact if_neg hn
theorem recR_yes {ok : Nat → Nat → Bool} {L : List UInt8} {l : Rc} {a : Nat} (h : gRec ok L 0 = some (l, a)) (hn : a = L.length ∧ rightR l = true) : recR ok L = some l := by unfold recR; rw [h]; exact if_pos hn
/-- The three blocks that whole lays. -/
def w3R (w : World) (A : Option Addr) (n c : Nat) : World := ((w.alloc (.cells #[.string ⟨#[]⟩, .slice none 0 0] 32)).alloc (.cells #[.int .i64 0] 95)).alloc (.cells #[.slice A n c, .int .i64 0] 126)
theorem w3R_facts (w : World) (A : Option Addr) (n c : Nat) (L : List UInt8) (hs : SlB w A n L) (hc : n ≤ c) (h9 : n ≤ 4000000000000) :
    (w3R w A n c).heap[w.heap.size]? = some (.cells #[.string ⟨#[]⟩, .slice none 0 0] 32 (0, 0)) ∧ (w3R w A n c).heap[w.heap.size + 1]? = some (.cells #[.int .i64 0] 95 (0, 0)) ∧ RSt (w3R w A n c) (w.heap.size + 1 + 1) A n c L 0 ∧ Below w.heap.size w (w3R w A n c) ∧ (w3R w A n c).heap.size = w.heap.size + 3 := by
  have b1 : Below w.heap.size w (w.alloc (.cells #[.string ⟨#[]⟩, .slice none 0 0] 32)) := (Below.refl _ _).alloc (Nat.le_refl _) _
  have b2 := b1.alloc b1.size (.cells #[.int .i64 0] 95)
  have b3 := b2.alloc b2.size (.cells #[.slice A n c, .int .i64 0] 126)
  have e1 := heap_alloc_new (w.alloc (.cells #[.string ⟨#[]⟩, .slice none 0 0] 32)) (.cells #[.int .i64 0] 95)
  have e2 := heap_alloc_new ((w.alloc (.cells #[.string ⟨#[]⟩, .slice none 0 0] 32)).alloc (.cells #[.int .i64 0] 95)) (.cells #[.slice A n c, .int .i64 0] 126)
  rw [show (w.alloc (.cells #[.string ⟨#[]⟩, .slice none 0 0] 32)).heap.size = w.heap.size + 1 by simp] at e1
  rw [show ((w.alloc (.cells #[.string ⟨#[]⟩, .slice none 0 0] 32)).alloc (.cells #[.int .i64 0] 95)).heap.size = w.heap.size + 1 + 1 by simp] at e2
  refine ⟨?_, ?_, ⟨e2, Sl.below hs b3, fun b off s hn e => ?_, Nat.zero_le _, hc, by omega⟩, b3, by simp [w3R]⟩
  · exact (Below.heap_alloc _ _ _ (by simp; omega)).trans ((Below.heap_alloc _ _ _ (by simp)).trans (heap_alloc_new w _))
  · exact (Below.heap_alloc _ _ _ (by simp)).trans e1
  · have := Sl.blk_lt hs (b := b) (off := off) (s := s) (by omega) e
    omega
theorem OwnV.rrow {w : World} {B n c : Nat} {A : Option Addr} {rows : List RV} {key : ByteArray} {vs : List Vr} (h : OwnV w B (.slice A n c) n rows) (hr : rows.map (·.1) = vs) (hc : n ≤ c) (hl : n * 64 ≤ 140737488351232) (hk : key.size ≤ 140737488351232) : RRow w ⟨key, vs⟩ A n c :=
  ⟨by rw [← hr]; exact h.slv, hc, hl, hk⟩
set_option maxHeartbeats 1000000 in
set_option maxRecDepth 100000 in
theorem wholeR_any (w : World) (A : Option Addr) (n c : Nat) (L : List UInt8) (hs : SlB w A n L) (hc : n ≤ c) (h9 : n ≤ 1000000000000) :
    Calls Try.prog 62 #[.slice A n c, .func (.func 63) #[] #[], .func (.func 31) #[] #[]] w (RecAns w (recR okP L)) := by
  have hmf : ∀ (fn : Fn) (first cap : Array Value) (w : World), (Instr.makeFunc fn first cap).run Try.prog w = .ok (.func fn first cap) w := fun _ _ _ _ => rfl
  have HL := Lib.hid hs.len
  obtain ⟨f0, f1, f2, f3, f4⟩ := w3R_facts w A n c L hs hc (by omega)
  have HW := Lib.hid (And.intro f0 (And.intro f1 (And.intro f3 f4)))
  have C1 := Lib.hid (rrec_any f2 h9)
  have HR0 := Lib.hid f2
  have HB0 := Lib.hid (fun (b' off : Nat) (s : Option Nat) (hn : 0 < n) (e : A = some ⟨b', off, s⟩) => Sl.blk_lt hs (b := b') (off := off) (s := s) (by omega) e)
  clear f0 f1 f2 f3 f4 hs
  go_enter_defers Try.func62, Try.ntmps62
  go_wp2_with fail
  change Calls _ _ _ (w3R w A n c) _
  generalize hw3 : w3R w A n c = w3 at *
  clear hw3
  cases ho : gRec okP L 0 with
  | none =>
    rw [ho] at C1
    have HN := Lib.hid (recR_no1 ho)
    clear ho
    refine C1.out.mono ?_
    rintro e w4 ⟨rfl, f4⟩
    have HG := Lib.hid (show w4.heap[w.heap.size]? = some (.cells #[.string ⟨#[]⟩, .slice none 0 0] 32 (0, 0)) ∧ w4.heap[w.heap.size + 1]? = some (.cells #[.int .i64 0] 95 (0, 0)) ∧ Below w.heap.size w w4 from
      ⟨(f4.block _ (lt_of_block HW.out.1) (by omega)).trans HW.out.1, (f4.block _ (lt_of_block HW.out.2.1) (by omega)).trans HW.out.2.1, HW.out.2.2.1.trans (f4.below (B := w.heap.size) (fun i hi => by have hi2 : i = w.heap.size + 1 + 1 := hi; omega) (by have := HW.out.2.2.2; omega))⟩)
    clear f4
    refine leaves_cons (f := 74) (args := #[.pointer (some ⟨w.heap.size, 0, none⟩), .pointer (some ⟨w.heap.size + 1, 0, none⟩)]) (by simp) (by simp [go_sem]) ?_
    refine (catchR_wrong w.heap.size (w.heap.size + 1) _ _ _ _ _ [] _ HG.out.1 HG.out.2.1 (by omega)).mono ?_
    rintro e u' w'' ⟨rfl, rfl, q0, q1, q2, ff⟩
    have HE := Lib.hid (RecAns.no HN.out (HG.out.2.2.trans (ff.below (B := w.heap.size) (fun i hi => by have hi2 : i = w.heap.size ∨ i = w.heap.size + 1 := hi; omega) HG.out.2.2.size)))
    clear ff
    simp [Leaves, settle, results, Try.results62, go_sem, q0, q1, q2]
    exact HE.out
  | some p =>
    obtain ⟨⟨key, vs⟩, a1⟩ := p
    rw [ho] at C1
    have HO := Lib.hid ho
    clear ho
    refine C1.out.mono ?_
    rintro e w4 ⟨_, rfl, ⟨rows, A4, c4, rfl, hrows, hv, hc4, hk4, hn4⟩, h4, f4⟩
    simp only at hrows hv hc4 hk4 hn4
    have hsz3 := HW.out.2.2.2
    have hsz4 := f4.size
    have k0 := (f4.block _ (lt_of_block HW.out.1) (by omega)).trans HW.out.1
    have k1 := (f4.block _ (lt_of_block HW.out.2.1) (by omega)).trans HW.out.2.1
    have bw4 : Below w.heap.size w w4 := HW.out.2.2.1.trans (f4.below (B := w.heap.size) (fun i hi => by have hi2 : i = w.heap.size + 1 + 1 := hi; omega) (by omega))
    have c0 := row_cell (j := 0) k0 rfl
    have c1 := row_cell (j := 1) k0 rfl
    have z0 := frozen_of_row w4 w.heap.size 0 _ _ k0
    have z1 := frozen_of_row w4 w.heap.size 1 _ _ k0
    have hfar : ∀ b' off s, 0 < n → A = some ⟨b', off, s⟩ → b' ≠ w.heap.size := fun b' off s hn e => by have := HB0.out b' off s hn e; omega
    have R5 := (h4.setOther (b := w.heap.size) (j := 0) (by omega) hfar (.string key)).setOther (b := w.heap.size) (j := 1) (by omega) hfar (.slice A4 vs.length c4)
    have own5 := (hv.set (g := w.heap.size) (j := 0) (by omega) (.string key)).set (g := w.heap.size) (j := 1) (by omega) (.slice A4 vs.length c4)
    have g0 := heap_setCell_same _ w.heap.size 1 _ _ (.slice A4 vs.length c4) (heap_setCell_same w4 w.heap.size 0 _ _ (.string key) k0)
    have g1 := (Below.heap_setCell _ ⟨w.heap.size, 1, none⟩ (.slice A4 vs.length c4) (w.heap.size + 1) (by simp)).trans ((Below.heap_setCell w4 ⟨w.heap.size, 0, none⟩ (.string key) (w.heap.size + 1) (by simp)).trans k1)
    have b5 := (bw4.setCell (p := ⟨w.heap.size, 0, none⟩) (Nat.le_refl _) (.string key)).setCell (p := ⟨w.heap.size, 1, none⟩) (Nat.le_refl _) (.slice A4 vs.length c4)
    have HG := Lib.hid (And.intro g0 (And.intro g1 b5))
    have HO5 := Lib.hid own5
    have HR5 := Lib.hid R5
    have HRW := Lib.hid hrows
    have d0 := row_cell (j := 0) g0 rfl
    have d1 := row_cell (j := 1) g0 rfl
    have d2 := R5.c1
    clear k0 k1 bw4 R5 own5 g0 g1 b5 h4 f4 hv hrows hfar
    by_cases ha : a1 = n
    · have q : ((a1 : Int) != (n : Int)) = false := by rw [ha]; simp
      have q2 : ((a1 : Int) == (n : Int)) = true := by rw [ha]; simp
      have c2 := rightRec_any ⟨key, vs⟩ A4 vs.length c4 _ (HO5.out.rrow HRW.out hc4 hn4 hk4)
      cases hr : rightR ⟨key, vs⟩
      · rw [hr] at c2
        have C2 := Lib.hid c2
        have HN := Lib.hid (recR_no2 HO.out (fun h => by rw [hr] at h; cases h.2))
        clear c2 hr ha
        go_wp2_with fail
        refine C2.out.mono ?_
        rintro e w6 ⟨rfl, b6⟩
        have HG := Lib.hid (And.intro ((b6.block _ (lt_of_block HG.out.1)).trans HG.out.1) (And.intro ((b6.block _ (lt_of_block HG.out.2.1)).trans HG.out.2.1) (HG.out.2.2.trans (b6.mono HG.out.2.2.size))))
        clear b6 C2 c0 c1 z0 z1 d0 d1 d2 HO5 HR5 HR0 HB0
        go_wp2
        refine leaves_cons (f := 74) (args := #[.pointer (some ⟨w.heap.size, 0, none⟩), .pointer (some ⟨w.heap.size + 1, 0, none⟩)]) (by simp) (by simp [go_sem]) ?_
        refine (catchR_wrong w.heap.size (w.heap.size + 1) _ _ _ _ _ [] _ HG.out.1 HG.out.2.1 (by omega)).mono ?_
        rintro e u' w'' ⟨rfl, rfl, q0, q1, q2, ff⟩
        have HE := Lib.hid (RecAns.no HN.out (HG.out.2.2.trans (ff.below (B := w.heap.size) (fun i hi => by have hi2 : i = w.heap.size ∨ i = w.heap.size + 1 := hi; omega) HG.out.2.2.size)))
        clear ff
        simp [Leaves, settle, results, Try.results62, go_sem, q0, q1, q2]
        exact HE.out
      · rw [hr] at c2
        have C2 := Lib.hid c2
        have HN := Lib.hid (recR_yes HO.out ⟨ha.trans HL.out.symm, hr⟩)
        clear c2 hr ha
        go_wp2_with fail
        refine C2.out.mono ?_
        rintro e w6 ⟨rfl, b6⟩
        have HG6 := Lib.hid (And.intro ((b6.block _ (lt_of_block HG.out.1)).trans HG.out.1) (And.intro ((b6.block _ (lt_of_block HG.out.2.1)).trans HG.out.2.1) (HG.out.2.2.trans (b6.mono HG.out.2.2.size))))
        have own6 := HO5.out.below b6
        have e0 := row_cell (j := 0) HG6.out.1 rfl
        have e1 := row_cell (j := 1) HG6.out.1 rfl
        have e2 := cell_of_one HG6.out.2.1
        have z5 := frozen_of_row w6 w.heap.size 0 _ _ HG6.out.1
        have z6 := frozen_of_row w6 w.heap.size 1 _ _ HG6.out.1
        have z7 := free_of_one HG6.out.2.1
        have k1 := heap_setCell_same _ w.heap.size 1 _ _ (.slice A4 vs.length c4) (heap_setCell_same w6 w.heap.size 0 _ _ (.string key) HG6.out.1)
        have k2 := (Below.heap_setCell _ ⟨w.heap.size, 1, none⟩ (.slice A4 vs.length c4) (w.heap.size + 1) (by simp)).trans ((Below.heap_setCell w6 ⟨w.heap.size, 0, none⟩ (.string key) (w.heap.size + 1) (by simp)).trans HG6.out.2.1)
        have k3 := one_setCell (u := .int .i64 0) k2
        have k4 := (Below.heap_setCell _ ⟨w.heap.size + 1, 0, none⟩ (.int .i64 0) w.heap.size (by simp)).trans k1
        have q0 := row_cell (j := 0) k4 rfl
        have q1 := row_cell (j := 1) k4 rfl
        have q2 := cell_of_one k3
        have hsz6 := b6.size
        simp at hsz6
        have bE := ((HG6.out.2.2.setCell (p := ⟨w.heap.size, 0, none⟩) (Nat.le_refl _) (.string key)).setCell (p := ⟨w.heap.size, 1, none⟩) (Nat.le_refl _) (.slice A4 vs.length c4)).setCell (p := ⟨w.heap.size + 1, 0, none⟩) (by simp) (.int .i64 0)
        have own8 := ((own6.set (g := w.heap.size) (j := 0) (by omega) (.string key)).set (g := w.heap.size) (j := 1) (by omega) (.slice A4 vs.length c4)).set (g := w.heap.size + 1) (j := 0) (by omega) (.int .i64 0)
        have HE := Lib.hid (RecAns.yes HN.out (RecV.of HRW.out (own8.lower (show w.heap.size ≤ w3.heap.size by omega)) hc4 ⟨hk4, hn4⟩) bE)
        have HQ := Lib.hid (And.intro q0 (And.intro q1 q2))
        clear b6 C2 c0 c1 z0 z1 d0 d1 d2 HO5 HR5 HR0 HB0 own6 k1 k2 k3 k4 bE own8 q0 q1 q2
        go_wp2
        refine leaves_cons (f := 74) (args := #[.pointer (some ⟨w.heap.size, 0, none⟩), .pointer (some ⟨w.heap.size + 1, 0, none⟩)]) (by simp) (by simp [go_sem]) ?_
        refine (catchR_idle _ _ _).mono ?_
        rintro e u' w'' ⟨rfl, rfl, rfl⟩
        obtain ⟨q0, q1, q2⟩ := HQ.out
        simp [Leaves, settle, results, Try.results62, go_sem, q0, q1, q2]
        exact HE.out
    · have q : ((a1 : Int) != (n : Int)) = true := by rw [bne_iff_ne]; omega
      have q2 : ((a1 : Int) == (n : Int)) = false := by rw [beq_eq_false_iff_ne]; omega
      have HN := Lib.hid (recR_no2 HO.out (fun h => ha (h.1.trans HL.out)))
      clear ha
      go_wp2
      refine leaves_cons (f := 74) (args := #[.pointer (some ⟨w.heap.size, 0, none⟩), .pointer (some ⟨w.heap.size + 1, 0, none⟩)]) (by simp) (by simp [go_sem]) ?_
      refine (catchR_wrong w.heap.size (w.heap.size + 1) _ _ _ _ _ [] _ HG.out.1 HG.out.2.1 (by omega)).mono ?_
      rintro e u' w'' ⟨rfl, rfl, q0, q1, q2, ff⟩
      have HE := Lib.hid (RecAns.no HN.out (HG.out.2.2.trans (ff.below (B := w.heap.size) (fun i hi => by have hi2 : i = w.heap.size ∨ i = w.heap.size + 1 := hi; omega) HG.out.2.2.size)))
      clear ff
      simp [Leaves, settle, results, Try.results62, go_sem, q0, q1, q2]
      exact HE.out
/-- code.Rec. -/
theorem rec_any (w : World) (A : Option Addr) (n c : Nat) (L : List UInt8) (hs : SlB w A n L) (hc : n ≤ c) (h9 : n ≤ 1000000000000) :
    Calls Try.prog 53 #[.slice A n c] w (RecAns w (recR okP L)) := by
  have bA : Below w.heap.size w (w.alloc (.cells #[.string ⟨#[]⟩, .slice none 0 0] 32)) := (Below.refl _ _).alloc (Nat.le_refl _) _
  have hb := heap_alloc_new w (.cells #[.string ⟨#[]⟩, .slice none 0 0] 32)
  have C := wholeR_any _ A n c L (Sl.below hs bA) hc h9
  have HA := Lib.hid bA
  have HX := Lib.hid hb
  clear bA hb hs
  cases ho : recR okP L with
  | none =>
    rw [ho] at C
    have C := Lib.hid C
    clear ho
    go_enter Try.func53, Try.ntmps53
    go_wp2_with fail
    refine C.out.mono ?_
    rintro e w1 ⟨rfl, b1⟩
    have HB := Lib.hid (HA.out.trans (b1.mono HA.out.size))
    have X1 := (b1.block _ (lt_of_block HX.out)).trans HX.out
    have z0 := frozen_of_row w1 w.heap.size 0 _ _ X1
    have z1 := frozen_of_row w1 w.heap.size 1 _ _ X1
    have r0 := row_cell (j := 0) X1 rfl
    have r1 := row_cell (j := 1) X1 rfl
    have k1 := heap_setCell_same _ w.heap.size 1 _ _ (.slice none 0 0) (heap_setCell_same w1 w.heap.size 0 _ _ (.string ⟨#[]⟩) X1)
    have q0 := row_cell (j := 0) k1 rfl
    have q1 := row_cell (j := 1) k1 rfl
    have HQ := Lib.hid (And.intro q0 q1)
    have hlx := lt_of_block X1
    have HE := Lib.hid (RecAns.no (w := w) (o := none) rfl ((HB.out.setCell (p := ⟨w.heap.size, 0, none⟩) (Nat.le_refl _) (.string ⟨#[]⟩)).setCell (p := ⟨w.heap.size, 1, none⟩) (Nat.le_refl _) (.slice none 0 0)))
    clear q0 q1 k1 b1 X1
    go_wp2
    obtain ⟨q0, q1⟩ := HQ.out
    refine bodyPost_ret (v := .tuple #[.agg #[.string ⟨#[]⟩, .slice none 0 0], .int .i64 2]) ?_ rfl HE.out
    simp [results, Try.results53, go_sem, q0, q1]
  | some l =>
    rw [ho] at C
    have C := Lib.hid C
    clear ho
    go_enter Try.func53, Try.ntmps53
    go_wp2_with fail
    refine C.out.mono ?_
    rintro e w1 ⟨_, rfl, ⟨rows, A4, c4, rfl, hrows, hv, hc4, hk4, hn4⟩, b1⟩
    obtain ⟨key, vs⟩ := l
    simp only at hrows hv hc4 hk4 hn4
    have HB := Lib.hid (HA.out.trans (b1.mono HA.out.size))
    have X1 := (b1.block _ (lt_of_block HX.out)).trans HX.out
    have z0 := frozen_of_row w1 w.heap.size 0 _ _ X1
    have z1 := frozen_of_row w1 w.heap.size 1 _ _ X1
    have r0 := row_cell (j := 0) X1 rfl
    have r1 := row_cell (j := 1) X1 rfl
    have k1 := heap_setCell_same _ w.heap.size 1 _ _ (.slice A4 vs.length c4) (heap_setCell_same w1 w.heap.size 0 _ _ (.string key) X1)
    have q0 := row_cell (j := 0) k1 rfl
    have q1 := row_cell (j := 1) k1 rfl
    have own8 := ((hv.set (g := w.heap.size) (j := 0) (by simp) (.string key)).set (g := w.heap.size) (j := 1) (by simp) (.slice A4 vs.length c4)).lower (show w.heap.size ≤ _ by simp)
    have HQ := Lib.hid (And.intro q0 q1)
    have hlx := lt_of_block X1
    have HE := Lib.hid (RecAns.yes (w := w) (o := some ⟨key, vs⟩) rfl (RecV.of hrows own8 hc4 ⟨hk4, hn4⟩) ((HB.out.setCell (p := ⟨w.heap.size, 0, none⟩) (Nat.le_refl _) (.string key)).setCell (p := ⟨w.heap.size, 1, none⟩) (Nat.le_refl _) (.slice A4 vs.length c4)))
    clear q0 q1 k1 b1 X1 hv own8 hrows
    go_wp2
    obtain ⟨q0, q1⟩ := HQ.out
    refine bodyPost_ret (v := .tuple #[.agg #[.string key, .slice A4 vs.length c4], .int .i64 0]) ?_ rfl HE.out
    simp [results, Try.results53, go_sem, q0, q1]
end Go.Proofs.Ytilagblpamhmkaa
