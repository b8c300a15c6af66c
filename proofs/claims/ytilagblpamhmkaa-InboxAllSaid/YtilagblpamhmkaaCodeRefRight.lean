/-
  firthref06: is an address, a record, a message right?
-/
import Derived.Test.YtilagblpamhmkaaCodeRight
import Derived.Test.YtilagblpamhmkaaMG
import Derived.Test.YtilagblpamhmkaaVerRefRight
import Derived.Test.YtilagblpamhmkaaMV
namespace Go.Proofs.Ytilagblpamhmkaa
open Go.RowKit
set_option linter.unusedVariables false

theorem key_none {k : ByteArray} (h : k.size = 0) : k.toList = [] := by
  have e := empty_of_size h
  subst e
  rw [ByteArray.toList_eq]
  rfl
theorem rightR_no1 {r : Rc} (h : ¬ (1 ≤ r.key.size ∧ r.key.size ≤ 32)) : rightR r = false := by
  cases hr : rightR r
  · rfl
  · have := rightR_true.1 hr; omega
theorem rightR_eq {r : Rc} (h1 : 1 ≤ r.key.size) (h2 : r.key.size ≤ 32) : rightR r = rightV r.vers := by
  unfold rightR
  rw [decide_eq_true h1, decide_eq_true h2]; rfl
set_option maxHeartbeats 1000000 in
set_option maxRecDepth 100000 in
theorem refRightRec_any (r : Rc) (A : Option Addr) (n c : Nat) (w : World) (hv : RRow w r A n c) :
    Calls Try.prog 41 #[.agg #[.string r.key, .slice A n c]] w (BoolE w (rightR r)) := by
  have bA : Below w.heap.size w (w.alloc (.cells #[.string r.key, .slice A n c] 32)) := (Below.refl _ _).alloc (Nat.le_refl _) _
  have hb := heap_alloc_new w (.cells #[.string r.key, .slice A n c] 32)
  have g0 := row_cell (j := 0) hb rfl
  have g1 := row_cell (j := 1) hb rfl
  have c1 := refRightV_any A n c r.vers _ (hv.sl.below bA) (by have := hv.len; omega)
  have hstr := hv.str
  have HA := Lib.hid bA
  clear hb bA hv
  obtain ⟨key, vers⟩ := r
  simp only at g0 g1 c1 hstr ⊢
  by_cases h1 : key.size = 0
  · have HN := Lib.hid (rightR_no1 (r := ⟨key, vers⟩) (by simp only; omega))
    have t1 := key_none h1
    have t2 : (key.toList == []) = true := by rw [t1]; rfl
    have t3 : (!key.toList.isEmpty) = false := by rw [t1]; rfl
    clear c1 h1
    go_enter Try.func41, Try.ntmps41
    go_wp2
    go_ret
    exact BoolE.of HN.out.symm HA.out
  · have t1 : key.toList ≠ [] := fun e => h1 (by
      have : key.data.toList = [] := by rw [← ByteArray.toList_eq]; exact e
      show key.data.size = 0
      rw [← Array.length_toList, this]; rfl)
    have t2 : (key.toList == []) = false := by rw [beq_eq_false_iff_ne]; exact t1
    have t3 : (!key.toList.isEmpty) = true := by cases hk : key.toList with | nil => exact absurd hk t1 | cons _ _ => rfl
    by_cases h2 : key.size ≤ 32
    · have HN := Lib.hid (rightR_eq (r := ⟨key, vers⟩) (by simp only; omega) h2)
      have C1 := Lib.hid c1
      clear c1 h1 t1
      go_enter Try.func41, Try.ntmps41
      go_wp2_with fail
      refine C1.out.mono ?_
      rintro e w1 ⟨rfl, b1⟩
      have HB := Lib.hid (HA.out.trans (b1.mono HA.out.size))
      clear b1 C1
      go_wp2
      go_ret
      exact BoolE.of HN.out.symm HB.out
    · have HN := Lib.hid (rightR_no1 (r := ⟨key, vers⟩) (by simp only; omega))
      clear c1 h1 t1
      go_enter Try.func41, Try.ntmps41
      go_wp2
      go_ret
      exact BoolE.of HN.out.symm HA.out
theorem rightM_no {m : Mg} (h : ¬ RightM m) : rightM m = false := by
  cases hr : rightM m
  · rfl
  · exact absurd (rightM_true.1 hr) h
theorem vec_right {l : List Int} (h : 0 < l.length) : (allB (inB 0 4611686018427387904) 16 l = true ↔ rightB l = true) := by
  rw [allB_true]
  unfold rightB
  simp only [Bool.and_eq_true, decide_eq_true_iff, List.all_eq_true]
  constructor
  · rintro ⟨h1, h2⟩
    refine ⟨⟨by omega, h2⟩, fun x hx => ?_⟩
    have := inB_true.1 (h1 x hx)
    unfold okB
    simp only [Bool.and_eq_true, decide_eq_true_iff]
    omega
  · rintro ⟨⟨h1, h2⟩, h3⟩
    refine ⟨fun x hx => inB_true.2 ?_, h2⟩
    have := h3 x hx
    unfold okB at this
    simp only [Bool.and_eq_true, decide_eq_true_iff] at this
    omega
theorem AllTo.get {α : Type} {ok : α → Bool} {l : List α} {n : Nat} (h : AllTo ok l n) (hl : l.length ≤ n) : ∀ x ∈ l, ok x = true := fun x hx => h x (by rw [List.take_of_length_le hl]; exact hx)
end Go.Proofs.Ytilagblpamhmkaa
