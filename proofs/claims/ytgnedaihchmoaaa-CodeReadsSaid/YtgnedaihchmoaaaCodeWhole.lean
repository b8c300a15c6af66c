/-
  firth/code.whole at a list of spans: the deferred closure that takes a panic up, and code.Set.
-/
import Derived.Test.YtgnedaihchmoaaaMB
import Derived.Defers
import Derived.Recover
namespace Go.Proofs.Ytgnedaihchmoaaa
open Go.RowKit
set_option linter.unusedVariables false

theorem catchS_idle (p q : Addr) (w : World) :
    CallsD Try.prog 106 #[.pointer (some p), .pointer (some q)] .returning w fun e u' w' => e = .returned (.tuple #[]) ∧ u' = .returning ∧ w' = w := by
  refine callsD_of_wpS Try.func106 rfl fun c₀ cs hu => ?_
  apply wpS_seq
  apply wpS_region
  simp [wpOpsS, go_sem, recoverD, hu, Try.ntmps106, Exit.thenS]
  refine wpS_of_wp ?_
  go_wp2
  cases c₀
  simp_all [bodyPostS, results, Try.results106]
theorem catchS_wrong (g0 g1 : Nat) (x y : Value) (t0 t1 : TypeId) (older : List PanicEntry) (w : World) (h0 : w.heap[g0]? = some (.cells #[x] t0 (0, 0))) (h1 : w.heap[g1]? = some (.cells #[y] t1 (0, 0))) (hne : g0 ≠ g1) :
    CallsD Try.prog 106 #[.pointer (some ⟨g0, 0, none⟩), .pointer (some ⟨g1, 0, none⟩)] (.panicking ({ v := .iface 146 (.agg #[]), recovered := false } :: older)) w fun e u' w' =>
      e = .returned (.tuple #[]) ∧ u' = .panicking ({ v := .iface 146 (.agg #[]), recovered := true } :: older) ∧ w' = ((w.setCell ⟨g0, 0, none⟩ (.slice none 0 0)).setCell ⟨g1, 0, none⟩ (.int .i64 2)).alloc (.cells #[] 146) := by
  have c0 := cell_of_one h0
  have f0 := free_of_one h0
  have c1 := cell_of_one h1
  have f1 := free_of_one h1
  have l0 := lt_of_block h0
  have l1 := lt_of_block h1
  have hta : ∀ w : World, (Instr.typeAssert (.iface 146 (.agg #[])) 20 146 true).run Try.prog w = .ok (.tuple #[.agg #[], .bool true]) w := fun _ => by kernel_rfl
  refine callsD_of_wpS Try.func106 rfl fun c₀ cs hu => ?_
  apply wpS_seq
  apply wpS_region
  simp [wpOpsS, go_sem, recoverD, hu, Try.ntmps106, Exit.thenS]
  refine wpS_of_wp ?_
  go_wp2
  exact ⟨rfl, _, rfl, .tuple #[], by simp [results, Try.results106, go_sem], rfl, rfl, rfl⟩

theorem set1_any {w : World} {r : Nat} {A : Option Addr} {n c : Nat} {L : List UInt8} {a : Nat} (h : RSt w r A n c L a) (h9 : n ≤ 4000000000000) :
    Calls Try.prog 71 #[.pointer (some ⟨r, 0, none⟩)] w (ListAns (OwnS w.heap.size) w r A n c L (pTake (gSpan okP) L a)) := by
  have hmf : ∀ (fn : Fn) (first cap : Array Value) (w : World), (Instr.makeFunc fn first cap).run Try.prog w = .ok (.func fn first cap) w := fun _ _ _ _ => rfl
  have C1 := take_spans h h9
  cases ho : pTake (gSpan okP) L a with
  | none =>
    rw [ho] at C1
    have C := Lib.hid C1
    clear C1 ho h
    go_enter Try.func71, Try.ntmps71
    go_wp2_with fail
    refine C.out.mono ?_
    rintro e w1 ⟨rfl, f1⟩
    exact ⟨rfl, rfl, f1⟩
  | some p =>
    obtain ⟨xs, a1⟩ := p
    rw [ho] at C1
    have C := Lib.hid C1
    clear C1 ho h
    go_enter Try.func71, Try.ntmps71
    go_wp2_with fail
    refine C.out.mono ?_
    rintro e w1 ⟨v, rfl, hv, h1, f1⟩
    have HK := Lib.hid (And.intro hv (And.intro h1 f1))
    clear hv h1 f1
    go_wp2
    go_ret
    exact ⟨_, rfl, HK.out⟩

/-- What Set answers. -/
def SetAns (w : World) (o : Option (List Sp)) (e : Ending) (w' : World) : Prop :=
  match o with
  | some l => ∃ A n c, e = .returned (.tuple #[.slice A n c, .int .i64 0]) ∧ w'.ownsRow w.heap.size 55 3 (.slice A n c) n (spV l) ∧ n ≤ c ∧ Below w.heap.size w w'
  | none => e = .returned (.tuple #[.slice none 0 0, .int .i64 2]) ∧ Below w.heap.size w w'
theorem SetAns.no {w w' : World} {o : Option (List Sp)} (ho : o = none) (b : Below w.heap.size w w') : SetAns w o (.returned (.tuple #[.slice none 0 0, .int .i64 2])) w' := by rw [ho]; exact ⟨rfl, b⟩
theorem SetAns.yes {w w' : World} {o : Option (List Sp)} {l : List Sp} {A : Option Addr} {n c : Nat} (ho : o = some l) (h : w'.ownsRow w.heap.size 55 3 (.slice A n c) n (spV l)) (hc : n ≤ c) (b : Below w.heap.size w w') : SetAns w o (.returned (.tuple #[.slice A n c, .int .i64 0])) w' := by rw [ho]; exact ⟨A, n, c, rfl, h, hc, b⟩
theorem setR_no1 {ok : Nat → Nat → Bool} {L : List UInt8} (h : pTake (gSpan ok) L 0 = none) : setR ok L = none := by unfold setR; rw [h]
theorem setR_no2 {ok : Nat → Nat → Bool} {L : List UInt8} {l : List Sp} {a : Nat} (h : pTake (gSpan ok) L 0 = some (l, a)) (hn : ¬ (a = L.length ∧ rightS l = true)) : setR ok L = none := by unfold setR; rw [h]; exact if_neg hn
theorem setR_yes {ok : Nat → Nat → Bool} {L : List UInt8} {l : List Sp} {a : Nat} (h : pTake (gSpan ok) L 0 = some (l, a)) (hn : a = L.length ∧ rightS l = true) : setR ok L = some l := by unfold setR; rw [h]; exact if_pos hn
theorem pTake_leS {L : List UInt8} {l : List Sp} {a : Nat} (h : pTake (gSpan okP) L 0 = some (l, a)) : l.length ≤ L.length := by
  obtain ⟨n, a1, h1, h2, h3, h4⟩ := pTake_some h
  omega
/-- The three blocks that whole lays. -/
def w3S (w : World) (A : Option Addr) (n c : Nat) : World := ((w.alloc (.cells #[.slice none 0 0] 51)).alloc (.cells #[.int .i64 0] 24)).alloc (.cells #[.slice A n c, .int .i64 0] 148)
theorem w3S_facts (w : World) (A : Option Addr) (n c : Nat) (L : List UInt8) (hs : SlB w A n L) (hc : n ≤ c) (h9 : n ≤ 4000000000000) :
    (w3S w A n c).heap[w.heap.size]? = some (.cells #[.slice none 0 0] 51 (0, 0)) ∧ (w3S w A n c).heap[w.heap.size + 1]? = some (.cells #[.int .i64 0] 24 (0, 0)) ∧ RSt (w3S w A n c) (w.heap.size + 1 + 1) A n c L 0 ∧ Below w.heap.size w (w3S w A n c) ∧ (w3S w A n c).heap.size = w.heap.size + 3 := by
  have b1 : Below w.heap.size w (w.alloc (.cells #[.slice none 0 0] 51)) := (Below.refl _ _).alloc (Nat.le_refl _) _
  have b2 := b1.alloc b1.size (.cells #[.int .i64 0] 24)
  have b3 := b2.alloc b2.size (.cells #[.slice A n c, .int .i64 0] 148)
  have e1 := heap_alloc_new (w.alloc (.cells #[.slice none 0 0] 51)) (.cells #[.int .i64 0] 24)
  have e2 := heap_alloc_new ((w.alloc (.cells #[.slice none 0 0] 51)).alloc (.cells #[.int .i64 0] 24)) (.cells #[.slice A n c, .int .i64 0] 148)
  rw [show (w.alloc (.cells #[.slice none 0 0] 51)).heap.size = w.heap.size + 1 by simp] at e1
  rw [show ((w.alloc (.cells #[.slice none 0 0] 51)).alloc (.cells #[.int .i64 0] 24)).heap.size = w.heap.size + 1 + 1 by simp] at e2
  refine ⟨?_, ?_, ⟨e2, Sl.below hs b3, fun b off s hn e => ?_, Nat.zero_le _, hc, by omega⟩, b3, by simp [w3S]⟩
  · exact (Below.heap_alloc _ _ _ (by simp; omega)).trans ((Below.heap_alloc _ _ _ (by simp)).trans (heap_alloc_new w _))
  · exact (Below.heap_alloc _ _ _ (by simp)).trans e1
  · have := Sl.blk_lt hs (b := b) (off := off) (s := s) (by omega) e
    omega
set_option maxHeartbeats 1000000 in
set_option maxRecDepth 100000 in
theorem wholeS_any (w : World) (A : Option Addr) (n c : Nat) (L : List UInt8) (hs : SlB w A n L) (hc : n ≤ c) (h9 : n ≤ 4000000000000) :
    Calls Try.prog 70 #[.slice A n c, .func (.func 71) #[] #[], .func (.func 65) #[] #[]] w (SetAns w (setR okP L)) := by
  have hmf : ∀ (fn : Fn) (first cap : Array Value) (w : World), (Instr.makeFunc fn first cap).run Try.prog w = .ok (.func fn first cap) w := fun _ _ _ _ => rfl
  have HL := Lib.hid hs.len
  obtain ⟨f0, f1, f2, f3, f4⟩ := w3S_facts w A n c L hs hc h9
  have HW := Lib.hid (And.intro f0 (And.intro f1 (And.intro f3 f4)))
  have C1 := Lib.hid (set1_any f2 h9)
  have HR0 := Lib.hid f2
  have HB0 := Lib.hid (fun (b' off : Nat) (s : Option Nat) (hn : 0 < n) (e : A = some ⟨b', off, s⟩) => Sl.blk_lt hs (b := b') (off := off) (s := s) (by omega) e)
  clear f0 f1 f2 f3 f4 hs
  go_enter_defers Try.func70, Try.ntmps70
  go_wp2_with fail
  change Calls _ _ _ (w3S w A n c) _
  generalize hw3 : w3S w A n c = w3 at *
  clear hw3
  cases ho : pTake (gSpan okP) L 0 with
  | none =>
    rw [ho] at C1
    have HN := Lib.hid (setR_no1 ho)
    clear ho
    refine C1.out.mono ?_
    rintro e w4 ⟨rfl, f4⟩
    have HG := Lib.hid (show w4.heap[w.heap.size]? = some (.cells #[.slice none 0 0] 51 (0, 0)) ∧ w4.heap[w.heap.size + 1]? = some (.cells #[.int .i64 0] 24 (0, 0)) ∧ Below w.heap.size w w4 from
      ⟨(f4.block _ (lt_of_block HW.out.1) (by omega)).trans HW.out.1, (f4.block _ (lt_of_block HW.out.2.1) (by omega)).trans HW.out.2.1, HW.out.2.2.1.trans (f4.below (B := w.heap.size) (fun i hi => by have hi2 : i = w.heap.size + 1 + 1 := hi; omega) (by have := HW.out.2.2.2; omega))⟩)
    clear f4
    refine leaves_cons (f := 106) (args := #[.pointer (some ⟨w.heap.size, 0, none⟩), .pointer (some ⟨w.heap.size + 1, 0, none⟩)]) (by simp) (by simp [go_sem]) ?_
    refine (catchS_wrong w.heap.size (w.heap.size + 1) _ _ _ _ [] _ HG.out.1 HG.out.2.1 (by omega)).mono ?_
    rintro e u' w'' ⟨rfl, rfl, rfl⟩
    have G1 := one_setCell (u := .slice none 0 0) HG.out.1
    have G2 := one_setCell (u := .int .i64 2) ((Below.heap_setCell w4 ⟨w.heap.size, 0, none⟩ (.slice none 0 0) (w.heap.size + 1) (by simp)).trans HG.out.2.1)
    have G3 := (Below.heap_alloc _ (.cells #[] 146) _ (lt_of_block G2)).trans G2
    have G4 := (Below.heap_setCell _ ⟨w.heap.size + 1, 0, none⟩ (.int .i64 2) w.heap.size (by simp)).trans G1
    have G5 := (Below.heap_alloc _ (.cells #[] 146) _ (lt_of_block G4)).trans G4
    have q0 := cell_of_one G5
    have q1 := cell_of_one G3
    have bE : Below w.heap.size w (((w4).setCell ⟨w.heap.size, 0, none⟩ (.slice none 0 0)).setCell ⟨w.heap.size + 1, 0, none⟩ (.int .i64 2)) := (HG.out.2.2.setCell (p := ⟨w.heap.size, 0, none⟩) (Nat.le_refl _) _).setCell (p := ⟨w.heap.size + 1, 0, none⟩) (by simp) _
    have HE := Lib.hid (SetAns.no HN.out (bE.alloc bE.size (.cells #[] 146)))
    clear G1 G2 G3 G4 G5 bE
    simp [Leaves, settle, results, Try.results70, go_sem, q0, q1]
    exact HE.out
  | some p =>
    obtain ⟨l, a1⟩ := p
    rw [ho] at C1
    have HO := Lib.hid ho
    clear ho
    refine C1.out.mono ?_
    rintro e w4 ⟨v, rfl, hv, h4, f4⟩
    obtain ⟨A4, c4, rfl, hc4, -⟩ := own_slice hv
    have hln := hv.1
    rw [spV_length] at hln
    have hsz3 := HW.out.2.2.2
    have hsz4 := f4.size
    have k0 := (f4.block _ (lt_of_block HW.out.1) (by omega)).trans HW.out.1
    have k1 := (f4.block _ (lt_of_block HW.out.2.1) (by omega)).trans HW.out.2.1
    have bw4 : Below w.heap.size w w4 := HW.out.2.2.1.trans (f4.below (B := w.heap.size) (fun i hi => by have hi2 : i = w.heap.size + 1 + 1 := hi; omega) (by omega))
    have c0 := cell_of_one k0
    have z0 := free_of_one k0
    have R5 := h4.setOther (b := w.heap.size) (j := 0) (by omega) (fun b' off s hn e => by have := HR0.out.far b' off s hn e; have := HB0.out b' off s hn e; omega) (.slice A4 l.length c4)
    have own5 := ownsRow_setCell_other hv (a := ⟨w.heap.size, 0, none⟩) (fun e => by have := (hv.lt _ e).1; simp at this; omega) (.slice A4 l.length c4)
    have g0 := one_setCell (u := .slice A4 l.length c4) k0
    have g1 := (Below.heap_setCell w4 ⟨w.heap.size, 0, none⟩ (.slice A4 l.length c4) (w.heap.size + 1) (by simp)).trans k1
    have b5 := bw4.setCell (p := ⟨w.heap.size, 0, none⟩) (Nat.le_refl _) (.slice A4 l.length c4)
    have HG := Lib.hid (And.intro g0 (And.intro g1 b5))
    have HO5 := Lib.hid own5
    have HR5 := Lib.hid R5
    clear k0 k1 bw4 R5 own5 g0 g1 b5 h4 f4 hv
    have d0 := cell_of_one HG.out.1
    have d1 := HR5.out.c1
    by_cases ha : a1 = n
    · have q : ((a1 : Int) != (n : Int)) = false := by rw [ha]; simp
      have q2 : ((a1 : Int) == (n : Int)) = true := by rw [ha]; simp
      have hle := Lib.hid (pTake_leS HO.out)
      have c2 := spanRight_any A4 l.length c4 l _ (Sl.of_own HO5.out) (by have := HL.out; have := hle.out; omega)
      cases hr : rightS l
      · rw [hr] at c2
        have C2 := Lib.hid c2
        have HN := Lib.hid (setR_no2 HO.out (fun h => by rw [hr] at h; cases h.2))
        clear c2 hr ha
        go_wp2_with fail
        refine C2.out.mono ?_
        rintro e w6 ⟨rfl, b6⟩
        have HG := Lib.hid (And.intro ((b6.block _ (lt_of_block HG.out.1)).trans HG.out.1) (And.intro ((b6.block _ (lt_of_block HG.out.2.1)).trans HG.out.2.1) (HG.out.2.2.trans (b6.mono HG.out.2.2.size))))
        clear b6 C2 c0 z0 d0 d1 HO5 HR5 HR0 HB0
        go_wp2
        refine leaves_cons (f := 106) (args := #[.pointer (some ⟨w.heap.size, 0, none⟩), .pointer (some ⟨w.heap.size + 1, 0, none⟩)]) (by simp) (by simp [go_sem]) ?_
        refine (catchS_wrong w.heap.size (w.heap.size + 1) _ _ _ _ [] _ HG.out.1 HG.out.2.1 (by omega)).mono ?_
        rintro e u' w'' ⟨rfl, rfl, rfl⟩
        have G1 := one_setCell (u := .slice none 0 0) HG.out.1
        have G2 := one_setCell (u := .int .i64 2) ((Below.heap_setCell w6 ⟨w.heap.size, 0, none⟩ (.slice none 0 0) (w.heap.size + 1) (by simp)).trans HG.out.2.1)
        have G3 := (Below.heap_alloc _ (.cells #[] 146) _ (lt_of_block G2)).trans G2
        have G4 := (Below.heap_setCell _ ⟨w.heap.size + 1, 0, none⟩ (.int .i64 2) w.heap.size (by simp)).trans G1
        have G5 := (Below.heap_alloc _ (.cells #[] 146) _ (lt_of_block G4)).trans G4
        have q0 := cell_of_one G5
        have q1 := cell_of_one G3
        have bE : Below w.heap.size w (((w6).setCell ⟨w.heap.size, 0, none⟩ (.slice none 0 0)).setCell ⟨w.heap.size + 1, 0, none⟩ (.int .i64 2)) := (HG.out.2.2.setCell (p := ⟨w.heap.size, 0, none⟩) (Nat.le_refl _) _).setCell (p := ⟨w.heap.size + 1, 0, none⟩) (by simp) _
        have HE := Lib.hid (SetAns.no HN.out (bE.alloc bE.size (.cells #[] 146)))
        clear G1 G2 G3 G4 G5 bE
        simp [Leaves, settle, results, Try.results70, go_sem, q0, q1]
        exact HE.out
      · rw [hr] at c2
        have C2 := Lib.hid c2
        have HN := Lib.hid (setR_yes HO.out ⟨ha.trans HL.out.symm, hr⟩)
        clear c2 hr ha
        go_wp2_with fail
        refine C2.out.mono ?_
        rintro e w6 ⟨rfl, b6⟩
        have HG6 := Lib.hid (And.intro ((b6.block _ (lt_of_block HG.out.1)).trans HG.out.1) (And.intro ((b6.block _ (lt_of_block HG.out.2.1)).trans HG.out.2.1) (HG.out.2.2.trans (b6.mono HG.out.2.2.size))))
        have own6 := own_below HO5.out b6
        have e0 := cell_of_one HG6.out.1
        have e1 := cell_of_one HG6.out.2.1
        have z5 := free_of_one HG6.out.1
        have z6 := free_of_one HG6.out.2.1
        have k1 := one_setCell (u := .slice A4 l.length c4) HG6.out.1
        have k2 := one_setCell (u := .int .i64 0) ((Below.heap_setCell w6 ⟨w.heap.size, 0, none⟩ (.slice A4 l.length c4) (w.heap.size + 1) (by simp)).trans HG6.out.2.1)
        have k3 := (Below.heap_setCell _ ⟨w.heap.size + 1, 0, none⟩ (.int .i64 0) w.heap.size (by simp)).trans k1
        have q0 := cell_of_one k3
        have q1 := cell_of_one k2
        have bE : Below w.heap.size w ((w6.setCell ⟨w.heap.size, 0, none⟩ (.slice A4 l.length c4)).setCell ⟨w.heap.size + 1, 0, none⟩ (.int .i64 0)) := (HG6.out.2.2.setCell (p := ⟨w.heap.size, 0, none⟩) (Nat.le_refl _) _).setCell (p := ⟨w.heap.size + 1, 0, none⟩) (by simp) _
        have own8 := ownsRow_setCell_other (ownsRow_setCell_other own6 (a := ⟨w.heap.size, 0, none⟩) (fun e => by have := (own6.lt _ e).1; simp at this; omega) (.slice A4 l.length c4)) (a := ⟨w.heap.size + 1, 0, none⟩) (fun e => by have := (own6.lt _ e).1; simp at this; omega) (.int .i64 0)
        have HE := Lib.hid (SetAns.yes HN.out (own_lower own8 (by omega)) hc4 bE)
        have HQ := Lib.hid (And.intro q0 q1)
        clear b6 C2 c0 z0 d0 d1 HO5 HR5 HR0 HB0 own6 k1 k2 k3 bE own8 q0 q1
        go_wp2
        refine leaves_cons (f := 106) (args := #[.pointer (some ⟨w.heap.size, 0, none⟩), .pointer (some ⟨w.heap.size + 1, 0, none⟩)]) (by simp) (by simp [go_sem]) ?_
        refine (catchS_idle _ _ _).mono ?_
        rintro e u' w'' ⟨rfl, rfl, rfl⟩
        have q0 := HQ.out.1
        have q1 := HQ.out.2
        simp [Leaves, settle, results, Try.results70, go_sem, q0, q1]
        exact HE.out
    · have q : ((a1 : Int) != (n : Int)) = true := by rw [bne_iff_ne]; omega
      have q2 : ((a1 : Int) == (n : Int)) = false := by rw [beq_eq_false_iff_ne]; omega
      have HN := Lib.hid (setR_no2 HO.out (fun h => ha (h.1.trans HL.out)))
      clear ha
      go_wp2
      refine leaves_cons (f := 106) (args := #[.pointer (some ⟨w.heap.size, 0, none⟩), .pointer (some ⟨w.heap.size + 1, 0, none⟩)]) (by simp) (by simp [go_sem]) ?_
      refine (catchS_wrong w.heap.size (w.heap.size + 1) _ _ _ _ [] _ HG.out.1 HG.out.2.1 (by omega)).mono ?_
      rintro e u' w'' ⟨rfl, rfl, rfl⟩
      have G1 := one_setCell (u := .slice none 0 0) HG.out.1
      have G2 := one_setCell (u := .int .i64 2) ((Below.heap_setCell (w4.setCell ⟨w.heap.size, 0, none⟩ (.slice A4 l.length c4)) ⟨w.heap.size, 0, none⟩ (.slice none 0 0) (w.heap.size + 1) (by simp)).trans HG.out.2.1)
      have G3 := (Below.heap_alloc _ (.cells #[] 146) _ (lt_of_block G2)).trans G2
      have G4 := (Below.heap_setCell _ ⟨w.heap.size + 1, 0, none⟩ (.int .i64 2) w.heap.size (by simp)).trans G1
      have G5 := (Below.heap_alloc _ (.cells #[] 146) _ (lt_of_block G4)).trans G4
      have q0 := cell_of_one G5
      have q1 := cell_of_one G3
      have bE : Below w.heap.size w ((((w4.setCell ⟨w.heap.size, 0, none⟩ (.slice A4 l.length c4))).setCell ⟨w.heap.size, 0, none⟩ (.slice none 0 0)).setCell ⟨w.heap.size + 1, 0, none⟩ (.int .i64 2)) := (HG.out.2.2.setCell (p := ⟨w.heap.size, 0, none⟩) (Nat.le_refl _) _).setCell (p := ⟨w.heap.size + 1, 0, none⟩) (by simp) _
      have HE := Lib.hid (SetAns.no HN.out (bE.alloc bE.size (.cells #[] 146)))
      clear G1 G2 G3 G4 G5 bE
      simp [Leaves, settle, results, Try.results70, go_sem, q0, q1]
      exact HE.out
/-- code.Set. -/
theorem set_any (w : World) (A : Option Addr) (n c : Nat) (L : List UInt8) (hs : SlB w A n L) (hc : n ≤ c) (h9 : n ≤ 4000000000000) :
    Calls Try.prog 21 #[.slice A n c] w (SetAns w (setR okP L)) := by
  have C := wholeS_any w A n c L hs hc h9
  cases ho : setR okP L with
  | none =>
    rw [ho] at C
    have C := Lib.hid C
    clear ho
    go_enter Try.func21, Try.ntmps21
    go_wp2_with fail
    refine C.out.mono ?_
    rintro e w1 ⟨rfl, b1⟩
    have HB := Lib.hid b1
    clear b1
    go_wp2
    go_ret2
    exact ⟨rfl, HB.out⟩
  | some l =>
    rw [ho] at C
    have C := Lib.hid C
    clear ho
    go_enter Try.func21, Try.ntmps21
    go_wp2_with fail
    refine C.out.mono ?_
    rintro e w1 ⟨A1, n1, c1, rfl, h1⟩
    have HK := Lib.hid h1
    clear h1
    go_wp2
    go_ret2
    exact ⟨_, _, _, rfl, HK.out⟩
end Go.Proofs.Ytgnedaihchmoaaa
