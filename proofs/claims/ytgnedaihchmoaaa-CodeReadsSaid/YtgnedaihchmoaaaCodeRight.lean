/-
  firth/code: is a record, is a message right?
-/
import Derived.Test.YtgnedaihchmoaaaME
import Derived.Test.YtgnedaihchmoaaaVerRight
import Derived.Test.YtgnedaihchmoaaaMB
import Derived.Test.YtgnedaihchmoaaaMG
namespace Go.Proofs.Ytgnedaihchmoaaa
open Go.RowKit
set_option linter.unusedVariables false

def BoolE (w : World) (b : Bool) (e : Ending) (w' : World) : Prop := e = .returned (.bool b) ∧ Below w.heap.size w w'
theorem BoolE.of {w w' : World} {b b' : Bool} (hb : b' = b) (h : Below w.heap.size w w') : BoolE w b (.returned (.bool b')) w' := by subst hb; exact ⟨rfl, h⟩
set_option maxHeartbeats 1000000 in
theorem place_any (s n : Int) (w : World) : Calls Try.prog 45 #[.agg #[.int .i64 s, .int .i64 n]] w (BoolE w (placeB s n)) := by
  have bA : Below w.heap.size w (w.alloc (.cells #[.int .i64 s, .int .i64 n] 23)) := (Below.refl _ _).alloc (Nat.le_refl _) _
  have hb := heap_alloc_new w (.cells #[.int .i64 s, .int .i64 n] 23)
  have g0 : (w.alloc (.cells #[.int .i64 s, .int .i64 n] 23)).cell? ⟨w.heap.size, 0, none⟩ = some (.int .i64 s) := by rw [cell_of_row _ w.heap.size 0 _ _ (0, 0) hb]; rfl
  have g1 : (w.alloc (.cells #[.int .i64 s, .int .i64 n] 23)).cell? ⟨w.heap.size, 1, none⟩ = some (.int .i64 n) := by rw [cell_of_row _ w.heap.size 1 _ _ (0, 0) hb]; rfl
  have HA := Lib.hid bA
  clear hb bA
  by_cases h1 : 1 ≤ s <;> by_cases h2 : s ≤ 16 <;> by_cases h3 : 0 ≤ n <;> by_cases h4 : n ≤ 8
  all_goals try (exfalso; omega)
  all_goals
    have HE := Lib.hid (show placeB s n = (decide (1 ≤ s) && decide (s ≤ 16) && (decide (0 ≤ n) && decide (n ≤ 8))) from rfl)
    go_enter Try.func45, Try.ntmps45
    go_wp2
    go_ret
    refine BoolE.of ?_ HA.out
    rw [HE.out]
    simp [h1, h2, h3, h4]
set_option maxHeartbeats 1000000 in
theorem rightRec_any (r : Rc) (A : Option Addr) (n c : Nat) (w : World) (hv : RRow w r A n c) :
    Calls Try.prog 29 #[.agg #[.string r.key, .slice A n c]] w (BoolE w (rightR r)) := by
  obtain ⟨key, vers⟩ := r
  have hE : rightR ⟨key, vers⟩ = (decide (1 ≤ key.size) && (decide (key.size ≤ 32) && rightV vers)) := rfl
  have hlen := hv.len
  have hstr := hv.str
  simp only at hstr
  have bA : Below w.heap.size w (w.alloc (.cells #[.string key, .slice A n c] 48)) := (Below.refl _ _).alloc (Nat.le_refl _) _
  have hb := heap_alloc_new w (.cells #[.string key, .slice A n c] 48)
  have g0 : (w.alloc (.cells #[.string key, .slice A n c] 48)).cell? ⟨w.heap.size, 0, none⟩ = some (.string key) := by rw [cell_of_row _ w.heap.size 0 _ _ (0, 0) hb]; rfl
  have g1 : (w.alloc (.cells #[.string key, .slice A n c] 48)).cell? ⟨w.heap.size, 1, none⟩ = some (.slice A n c) := by rw [cell_of_row _ w.heap.size 1 _ _ (0, 0) hb]; rfl
  have C1 := Lib.hid (verRight_any A n c vers _ (hv.sl.below bA) (by omega))
  have HA := Lib.hid bA
  have HE := Lib.hid hE
  clear hb bA hv hE
  by_cases h1 : 1 ≤ key.size
  · have h1' : (1 : Int) ≤ (key.size : Int) := by omega
    by_cases h2 : key.size ≤ 32
    · have h2' : (key.size : Int) ≤ 32 := by omega
      have HE2 := Lib.hid (show rightR ⟨key, vers⟩ = rightV vers by rw [HE.out]; simp [h1, h2])
      clear HE
      go_enter Try.func29, Try.ntmps29
      go_wp2_with (go_at_call 79; refine C1.out.mono ?_; rintro e w1 ⟨rfl, b1⟩; have HB := Lib.hid (HA.out.trans (b1.mono HA.out.size)); clear b1)
      go_ret
      exact BoolE.of HE2.out.symm HB.out
    · have h2' : ¬ (key.size : Int) ≤ 32 := by omega
      have HE2 := Lib.hid (show rightR ⟨key, vers⟩ = false by rw [HE.out]; simp [h2])
      clear HE
      go_enter Try.func29, Try.ntmps29
      go_wp2
      go_ret
      exact BoolE.of HE2.out.symm HA.out
  · have h1' : ¬ (1 : Int) ≤ (key.size : Int) := by omega
    have HE2 := Lib.hid (show rightR ⟨key, vers⟩ = false by rw [HE.out]; simp [h1])
    clear HE
    go_enter Try.func29, Try.ntmps29
    go_wp2
    go_ret
    exact BoolE.of HE2.out.symm HA.out
/-- Up to here all are. -/
def AllTo {α : Type} (ok : α → Bool) (l : List α) (k : Nat) : Prop := ∀ x ∈ l.take k, ok x = true
theorem AllTo.start {α : Type} (ok : α → Bool) (l : List α) : AllTo ok l 0 := by intro x hx; simp at hx
theorem AllTo.step {α : Type} {ok : α → Bool} {l : List α} {k : Nat} {x : α} (h : AllTo ok l k) (hx : l[k]? = some x) (ho : ok x = true) : AllTo ok l (k + 1) := by
  intro y hy
  rcases mem_take_succ hx hy with h1 | rfl
  · exact h y h1
  · exact ho
theorem allB_no {α : Type} {ok : α → Bool} {l : List α} {most k : Nat} {x : α} (hx : l[k]? = some x) (ho : ok x = false) : allB ok most l = false := by
  cases h : allB ok most l
  · rfl
  · have := (allB_true.1 h).1 x (List.mem_of_getElem? hx)
    rw [ho] at this; cases this
theorem AllTo.all {α : Type} {ok : α → Bool} {l : List α} {n most : Nat} (h : AllTo ok l n) (hl : l.length = n) : allB ok most l = decide (n ≤ most) := by
  have : l.all ok = true := List.all_eq_true.2 fun x hx => h x (by rw [List.take_of_length_le (by omega)]; exact hx)
  unfold allB
  rw [this, Bool.true_and, hl]
set_option maxHeartbeats 1000000 in
theorem allRec_any (B : Option Addr) (n k most : Nat) (l : List Rc) (w : World) (hs : SlR w B n l) (hn : n ≤ 140737488351232) :
    Calls Try.prog 46 #[.slice B n k, .int .i64 (most : Int), .func (.func 29) #[] #[]] w (BoolE w (allB rightR most l)) := by
  have hll := hs.len
  have HS := Lib.hid hs
  clear hs
  go_enter Try.func46, Try.ntmps46
  go_wp2
  go_loopw [11] (fun t wr => ∃ (i : Nat), t = .int .i64 (i : Int) ∧ i ≤ n ∧ Hid (AllTo rightR l i) ∧ Hid (Below w.heap.size w wr)) (fun t _ => n - (intOf t).toNat)
  case atStart => exact ⟨0, rfl, Nat.zero_le _, AllTo.start _ _, Below.refl _ _⟩
  case round =>
    obtain ⟨i, rfl, hi, HI, HB⟩ := hrel
    by_cases hlt : i < n
    · obtain ⟨b, off, r, Ap, np, cp, rfl, hx, hr, hc0, hc1⟩ := (HS.out.below HB.out).at_ hlt
      have HX := Lib.hid hx
      have bA : Below wr.heap.size wr (wr.alloc (.cells #[.string r.key, .slice Ap np cp] 48)) := (Below.refl _ _).alloc (Nat.le_refl _) _
      have c1 := rightRec_any r Ap np cp _ (hr.below bA)
      have HA := Lib.hid (HB.out.trans (bA.mono HB.out.size))
      clear hx bA hr
      cases ho : rightR r
      · rw [ho] at c1
        have C1 := Lib.hid c1
        have HN := Lib.hid (allB_no (most := most) HX.out ho)
        clear c1 ho HX
        obtain ⟨key, vers⟩ := r
        simp only at hc0 hc1 C1
        go_wp2_with (go_at_call 29; refine C1.out.mono ?_; rintro e w2 ⟨rfl, b2⟩; have HB2 := Lib.hid (HA.out.trans (b2.mono HA.out.size)); clear b2)
        go_ret
        exact BoolE.of HN.out.symm HB2.out
      · rw [ho] at c1
        have C1 := Lib.hid c1
        have HN := Lib.hid (HI.out.step HX.out ho)
        clear c1 ho HX
        obtain ⟨key, vers⟩ := r
        simp only at hc0 hc1 C1
        go_wp2_with (go_at_call 29; refine C1.out.mono ?_; rintro e w2 ⟨rfl, b2⟩; have HB2 := Lib.hid (HA.out.trans (b2.mono HA.out.size)); clear b2)
        go_roundw
        case rel => exact ⟨i + 1, by go_num, by omega, HN, HB2⟩
        case measure => simp [intOf]; omega
    · obtain rfl : i = n := by omega
      have HE := Lib.hid (HI.out.all (most := most) hll)
      go_wp2
      go_ret
      exact BoolE.of HE.out.symm HB.out
/-- What 'between' makes. -/
def betV (f : FuncId) (g : Nat) : Value := .func (.func f) #[] #[.pointer (some ⟨g, 0, none⟩), .pointer (some ⟨g + 1, 0, none⟩)]
theorem between64_any (lo hi : Int) (w : World) : Calls Try.prog 48 #[.int .i64 lo, .int .i64 hi] w fun e w' => e = .returned (betV 91 w.heap.size) ∧ w'.cell? ⟨w.heap.size, 0, none⟩ = some (.int .i64 lo) ∧ w'.cell? ⟨w.heap.size + 1, 0, none⟩ = some (.int .i64 hi) ∧ Below w.heap.size w w' := by
  have bA : Below w.heap.size w ((w.alloc (.cells #[.int .i64 lo] 2)).alloc (.cells #[.int .i64 hi] 2)) := ((Below.refl _ _).alloc (Nat.le_refl _) _).alloc (by simp) _
  have hmf : ∀ (fn : Fn) (first cap : Array Value) (w : World), (Instr.makeFunc fn first cap).run Try.prog w = .ok (.func fn first cap) w := fun _ _ _ _ => rfl
  have h1 := heap_alloc_new (w.alloc (.cells #[.int .i64 lo] 2)) (.cells #[.int .i64 hi] 2)
  rw [show (w.alloc (.cells #[.int .i64 lo] 2)).heap.size = w.heap.size + 1 by simp] at h1
  have h0 := (Below.heap_alloc (w.alloc (.cells #[.int .i64 lo] 2)) (.cells #[.int .i64 hi] 2) w.heap.size (by simp)).trans (heap_alloc_new w _)
  have HK := Lib.hid (And.intro (cell_of_one h0) (And.intro (cell_of_one h1) bA))
  clear h0 h1 bA
  go_enter Try.func48, Try.ntmps48
  go_wp2
  go_ret
  exact ⟨rfl, HK.out⟩
theorem betweenI_any (lo hi : Int) (w : World) : Calls Try.prog 50 #[.int .i64 lo, .int .i64 hi] w fun e w' => e = .returned (betV 92 w.heap.size) ∧ w'.cell? ⟨w.heap.size, 0, none⟩ = some (.int .i64 lo) ∧ w'.cell? ⟨w.heap.size + 1, 0, none⟩ = some (.int .i64 hi) ∧ Below w.heap.size w w' := by
  have bA : Below w.heap.size w ((w.alloc (.cells #[.int .i64 lo] 3)).alloc (.cells #[.int .i64 hi] 3)) := ((Below.refl _ _).alloc (Nat.le_refl _) _).alloc (by simp) _
  have hmf : ∀ (fn : Fn) (first cap : Array Value) (w : World), (Instr.makeFunc fn first cap).run Try.prog w = .ok (.func fn first cap) w := fun _ _ _ _ => rfl
  have h1 := heap_alloc_new (w.alloc (.cells #[.int .i64 lo] 3)) (.cells #[.int .i64 hi] 3)
  rw [show (w.alloc (.cells #[.int .i64 lo] 3)).heap.size = w.heap.size + 1 by simp] at h1
  have h0 := (Below.heap_alloc (w.alloc (.cells #[.int .i64 lo] 3)) (.cells #[.int .i64 hi] 3) w.heap.size (by simp)).trans (heap_alloc_new w _)
  have HK := Lib.hid (And.intro (cell_of_one h0) (And.intro (cell_of_one h1) bA))
  clear h0 h1 bA
  go_enter Try.func50, Try.ntmps50
  go_wp2
  go_ret
  exact ⟨rfl, HK.out⟩
theorem in64_any (lo hi x : Int) (g : Nat) (w : World) (c0 : w.cell? ⟨g, 0, none⟩ = some (.int .i64 lo)) (c1 : w.cell? ⟨g + 1, 0, none⟩ = some (.int .i64 hi)) :
    Calls Try.prog 91 #[.int .i64 x, .pointer (some ⟨g, 0, none⟩), .pointer (some ⟨g + 1, 0, none⟩)] w fun e w' => e = .returned (.bool (inB lo hi x)) ∧ w' = w := by
  have HE := Lib.hid (show inB lo hi x = (decide (lo ≤ x) && decide (x ≤ hi)) from rfl)
  by_cases h1 : lo ≤ x <;> by_cases h2 : x ≤ hi
  all_goals
    go_enter Try.func91, Try.ntmps91
    go_wp2
    go_ret
    refine ⟨?_, rfl⟩
    rw [HE.out]
    simp [h1, h2]
theorem inI_any (lo hi x : Int) (g : Nat) (w : World) (c0 : w.cell? ⟨g, 0, none⟩ = some (.int .i64 lo)) (c1 : w.cell? ⟨g + 1, 0, none⟩ = some (.int .i64 hi)) :
    Calls Try.prog 92 #[.int .i64 x, .pointer (some ⟨g, 0, none⟩), .pointer (some ⟨g + 1, 0, none⟩)] w fun e w' => e = .returned (.bool (inB lo hi x)) ∧ w' = w := by
  have HE := Lib.hid (show inB lo hi x = (decide (lo ≤ x) && decide (x ≤ hi)) from rfl)
  by_cases h1 : lo ≤ x <;> by_cases h2 : x ≤ hi
  all_goals
    go_enter Try.func92, Try.ntmps92
    go_wp2
    go_ret
    refine ⟨?_, rfl⟩
    rw [HE.out]
    simp [h1, h2]
set_option maxHeartbeats 1000000 in
theorem all64_any (B : Option Addr) (n k most : Nat) (l : List Int) (lo hi : Int) (g : Nat) (w : World) (hs : Sl w B n 1 (l.map (Value.int .i64))) (hn : n ≤ 140737488351232) (c0 : w.cell? ⟨g, 0, none⟩ = some (.int .i64 lo)) (c1 : w.cell? ⟨g + 1, 0, none⟩ = some (.int .i64 hi)) :
    Calls Try.prog 47 #[.slice B n k, .int .i64 (most : Int), betV 91 g] w (BoolE w (allB (inB lo hi) most l)) := by
  have hll := hs.len1
  have HS := Lib.hid hs
  have C := Lib.hid (fun x : Int => in64_any lo hi x g w c0 c1)
  unfold betV
  clear hs c0 c1
  go_enter Try.func47, Try.ntmps47
  go_wp2
  go_loop [11] (fun t => ∃ (i : Nat), t = .int .i64 (i : Int) ∧ i ≤ n ∧ Hid (AllTo (inB lo hi) l i)) (fun t => n - (intOf t).toNat)
  case atStart => exact ⟨0, rfl, Nat.zero_le _, AllTo.start _ _⟩
  case round =>
    obtain ⟨i, rfl, hi', HI⟩ := hrel
    by_cases hlt : i < n
    · obtain ⟨b, off, x, rfl, hx, hc0⟩ := Sl.at1m HS.out hlt
      have c1 := C.out x
      have HX := Lib.hid hx
      clear hx
      cases ho : inB lo hi x
      · rw [ho] at c1
        have C1 := Lib.hid c1
        have HN := Lib.hid (allB_no (most := most) HX.out ho)
        clear c1 ho HX
        go_wp2_with (go_at_call 91; refine C1.out.mono ?_; rintro e w2 ⟨rfl, rfl⟩)
        go_ret
        exact BoolE.of HN.out.symm (Below.refl _ _)
      · rw [ho] at c1
        have C1 := Lib.hid c1
        have HN := Lib.hid (HI.out.step HX.out ho)
        clear c1 ho HX
        go_wp2_with (go_at_call 91; refine C1.out.mono ?_; rintro e w2 ⟨rfl, rfl⟩)
        go_round
        case rel => exact ⟨i + 1, by go_num, by omega, HN⟩
        case measure => simp [intOf]; omega
    · obtain rfl : i = n := by omega
      have HE := Lib.hid (HI.out.all (most := most) hll)
      go_wp2
      go_ret
      exact BoolE.of HE.out.symm (Below.refl _ _)
set_option maxHeartbeats 1000000 in
theorem allI_any (B : Option Addr) (n k most : Nat) (l : List Int) (lo hi : Int) (g : Nat) (w : World) (hs : Sl w B n 1 (l.map (Value.int .i64))) (hn : n ≤ 140737488351232) (c0 : w.cell? ⟨g, 0, none⟩ = some (.int .i64 lo)) (c1 : w.cell? ⟨g + 1, 0, none⟩ = some (.int .i64 hi)) :
    Calls Try.prog 49 #[.slice B n k, .int .i64 (most : Int), betV 92 g] w (BoolE w (allB (inB lo hi) most l)) := by
  have hll := hs.len1
  have HS := Lib.hid hs
  have C := Lib.hid (fun x : Int => inI_any lo hi x g w c0 c1)
  unfold betV
  clear hs c0 c1
  go_enter Try.func49, Try.ntmps49
  go_wp2
  go_loop [11] (fun t => ∃ (i : Nat), t = .int .i64 (i : Int) ∧ i ≤ n ∧ Hid (AllTo (inB lo hi) l i)) (fun t => n - (intOf t).toNat)
  case atStart => exact ⟨0, rfl, Nat.zero_le _, AllTo.start _ _⟩
  case round =>
    obtain ⟨i, rfl, hi', HI⟩ := hrel
    by_cases hlt : i < n
    · obtain ⟨b, off, x, rfl, hx, hc0⟩ := Sl.at1m HS.out hlt
      have c1 := C.out x
      have HX := Lib.hid hx
      clear hx
      cases ho : inB lo hi x
      · rw [ho] at c1
        have C1 := Lib.hid c1
        have HN := Lib.hid (allB_no (most := most) HX.out ho)
        clear c1 ho HX
        go_wp2_with (go_at_call 92; refine C1.out.mono ?_; rintro e w2 ⟨rfl, rfl⟩)
        go_ret
        exact BoolE.of HN.out.symm (Below.refl _ _)
      · rw [ho] at c1
        have C1 := Lib.hid c1
        have HN := Lib.hid (HI.out.step HX.out ho)
        clear c1 ho HX
        go_wp2_with (go_at_call 92; refine C1.out.mono ?_; rintro e w2 ⟨rfl, rfl⟩)
        go_round
        case rel => exact ⟨i + 1, by go_num, by omega, HN⟩
        case measure => simp [intOf]; omega
    · obtain rfl : i = n := by omega
      have HE := Lib.hid (HI.out.all (most := most) hll)
      go_wp2
      go_ret
      exact BoolE.of HE.out.symm (Below.refl _ _)
end Go.Proofs.Ytgnedaihchmoaaa
