/-
  firth/code: is a record, is a message right?
-/
import Derived.Test.YtilagblpamhmkaaME
import Derived.Test.YtilagblpamhmkaaVerRight
import Derived.Test.YtilagblpamhmkaaMB
import Derived.Test.YtilagblpamhmkaaMG
namespace Go.Proofs.Ytilagblpamhmkaa
open Go.RowKit
set_option linter.unusedVariables false

def BoolE (w : World) (b : Bool) (e : Ending) (w' : World) : Prop := e = .returned (.bool b) ∧ Below w.heap.size w w'
theorem BoolE.of {w w' : World} {b b' : Bool} (hb : b' = b) (h : Below w.heap.size w w') : BoolE w b (.returned (.bool b')) w' := by subst hb; exact ⟨rfl, h⟩
set_option maxHeartbeats 1000000 in
theorem rightRec_any (r : Rc) (A : Option Addr) (n c : Nat) (w : World) (hv : RRow w r A n c) :
    Calls Try.prog 31 #[.agg #[.string r.key, .slice A n c]] w (BoolE w (rightR r)) := by
  obtain ⟨key, vers⟩ := r
  have hE : rightR ⟨key, vers⟩ = (decide (1 ≤ key.size) && (decide (key.size ≤ 32) && rightV vers)) := rfl
  have hlen := hv.len
  have hstr := hv.str
  simp only at hstr
  have bA : Below w.heap.size w (w.alloc (.cells #[.string key, .slice A n c] 32)) := (Below.refl _ _).alloc (Nat.le_refl _) _
  have hb := heap_alloc_new w (.cells #[.string key, .slice A n c] 32)
  have g0 : (w.alloc (.cells #[.string key, .slice A n c] 32)).cell? ⟨w.heap.size, 0, none⟩ = some (.string key) := by rw [cell_of_row _ w.heap.size 0 _ _ (0, 0) hb]; rfl
  have g1 : (w.alloc (.cells #[.string key, .slice A n c] 32)).cell? ⟨w.heap.size, 1, none⟩ = some (.slice A n c) := by rw [cell_of_row _ w.heap.size 1 _ _ (0, 0) hb]; rfl
  have C1 := Lib.hid (verRight_any A n c vers _ (hv.sl.below bA) (by omega))
  have HA := Lib.hid bA
  have HE := Lib.hid hE
  clear hb bA hv hE
  by_cases h1 : 1 ≤ key.size
  · have h1' : (1 : Int) ≤ (key.size : Int) := by omega
    by_cases h2 : key.size ≤ 32
    · have h2' : (key.size : Int) ≤ 32 := by omega
      have HE2 := Lib.hid (show rightR ⟨key, vers⟩ = rightV vers by rw [HE.out]; simp [h1, h2])
      clear HE
      go_enter Try.func31, Try.ntmps31
      go_wp2_with (go_at_call 48; refine C1.out.mono ?_; rintro e w1 ⟨rfl, b1⟩; have HB := Lib.hid (HA.out.trans (b1.mono HA.out.size)); clear b1)
      go_ret
      exact BoolE.of HE2.out.symm HB.out
    · have h2' : ¬ (key.size : Int) ≤ 32 := by omega
      have HE2 := Lib.hid (show rightR ⟨key, vers⟩ = false by rw [HE.out]; simp [h2])
      clear HE
      go_enter Try.func31, Try.ntmps31
      go_wp2
      go_ret
      exact BoolE.of HE2.out.symm HA.out
  · have h1' : ¬ (1 : Int) ≤ (key.size : Int) := by omega
    have HE2 := Lib.hid (show rightR ⟨key, vers⟩ = false by rw [HE.out]; simp [h1])
    clear HE
    go_enter Try.func31, Try.ntmps31
    go_wp2
    go_ret
    exact BoolE.of HE2.out.symm HA.out
/-- Up to here all are. -/
def AllTo {α : Type} (ok : α → Bool) (l : List α) (k : Nat) : Prop := ∀ x ∈ l.take k, ok x = true
theorem AllTo.start {α : Type} (ok : α → Bool) (l : List α) : AllTo ok l 0 := by intro x hx; simp at hx
theorem AllTo.step {α : Type} {ok : α → Bool} {l : List α} {k : Nat} {x : α} (h : AllTo ok l k) (hx : l[k]? = some x) (ho : ok x = true) : AllTo ok l (k + 1) := by
  intro y hy
  rcases mem_take_succ hx hy with h1 | rfl
  · exact h y h1
  · exact ho
theorem allB_no {α : Type} {ok : α → Bool} {l : List α} {most k : Nat} {x : α} (hx : l[k]? = some x) (ho : ok x = false) : allB ok most l = false := by
  cases h : allB ok most l
  · rfl
  · have := (allB_true.1 h).1 x (List.mem_of_getElem? hx)
    rw [ho] at this; cases this
theorem AllTo.all {α : Type} {ok : α → Bool} {l : List α} {n most : Nat} (h : AllTo ok l n) (hl : l.length = n) : allB ok most l = decide (n ≤ most) := by
  have : l.all ok = true := List.all_eq_true.2 fun x hx => h x (by rw [List.take_of_length_le (by omega)]; exact hx)
  unfold allB
  rw [this, Bool.true_and, hl]
/-- What 'between' makes. -/
def betV (f : FuncId) (g : Nat) : Value := .func (.func f) #[] #[.pointer (some ⟨g, 0, none⟩), .pointer (some ⟨g + 1, 0, none⟩)]
end Go.Proofs.Ytilagblpamhmkaa
