/-
  Versions by dots: order, what came behind, right sets. No program is looked at here.
-/
import Derived.Test.YtlcfknpmnoghbaaVerOne
namespace Go.Proofs.Ytlcfknpmnoghbaa
open Go.RowKit
set_option linter.unusedVariables false

def dltB (s n s' n' : Int) : Bool := decide (s < s' ∨ (s = s' ∧ n < n'))
theorem dltB_yes {s n s' n' : Int} (h : s < s' ∨ (s = s' ∧ n < n')) : dltB s n s' n' = true := decide_eq_true h
theorem dltB_no {s n s' n' : Int} (h : ¬ (s < s' ∨ (s = s' ∧ n < n'))) : dltB s n s' n' = false := decide_eq_false h
def dlt (x y : Vr) : Prop := dltB x.s x.n y.s y.n = true
theorem dlt_iff {x y : Vr} : dlt x y ↔ (x.s < y.s ∨ (x.s = y.s ∧ x.n < y.n)) := by unfold dlt dltB; rw [decide_eq_true_iff]
theorem dlt_trans {x y z : Vr} (h1 : dlt x y) (h2 : dlt y z) : dlt x z := by rw [dlt_iff] at *; omega
theorem dlt_irrefl (x : Vr) : ¬ dlt x x := by rw [dlt_iff]; omega
noncomputable def behB (l : List Vr) (s n : Int) : Bool := l.any fun v => hasB v.past s n
theorem behB_true {l : List Vr} {s n : Int} : behB l s n = true ↔ ∃ v ∈ l, hasB v.past s n = true := by unfold behB; rw [List.any_eq_true]
theorem behB_false {l : List Vr} {s n : Int} : behB l s n = false ↔ ∀ v ∈ l, hasB v.past s n = false := by unfold behB; rw [List.any_eq_false]; simp
def BehTo (l : List Vr) (s n : Int) (k : Nat) : Prop := ∀ v ∈ l.take k, hasB v.past s n = false
theorem mem_take_succ {α : Type} {l : List α} {k : Nat} {x y : α} (hx : l[k]? = some x) (hy : y ∈ l.take (k + 1)) : y ∈ l.take k ∨ y = x := by
  rw [List.take_add_one, hx] at hy
  simpa using hy
theorem BehTo.start (l : List Vr) (s n : Int) : BehTo l s n 0 := by intro v hv; simp at hv
theorem BehTo.step {l : List Vr} {s n : Int} {k : Nat} {x : Vr} (h : BehTo l s n k) (hx : l[k]? = some x) (hn : hasB x.past s n = false) : BehTo l s n (k + 1) := by
  intro v hv
  rcases mem_take_succ hx hv with h1 | rfl
  · exact h v h1
  · exact hn
theorem BehTo.hit {l : List Vr} {s n : Int} {k : Nat} {x : Vr} (hx : l[k]? = some x) (hn : hasB x.past s n = true) : behB l s n = true := behB_true.2 ⟨x, List.mem_of_getElem? hx, hn⟩
theorem BehTo.all {l : List Vr} {s n : Int} {k : Nat} (h : BehTo l s n k) (hk : l.length = k) : behB l s n = false := behB_false.2 fun v hv => h v (by rw [List.take_of_length_le (by omega)]; exact hv)

/-- A right set. -/
def RightV (l : List Vr) : Prop := ((∀ v ∈ l, okVB v = true ∧ behB l v.s v.n = false) ∧ l.Pairwise dlt) ∧ l.length ≤ 512
noncomputable def rightV (l : List Vr) : Bool := @decide (RightV l) (Classical.propDecidable _)
theorem rightV_true {l : List Vr} : rightV l = true ↔ RightV l := by unfold rightV; exact @decide_eq_true_iff _ (Classical.propDecidable _)
theorem rightV_false {l : List Vr} (h : ¬ RightV l) : rightV l = false := by
  unfold rightV
  exact @decide_eq_false _ (Classical.propDecidable _) h
def VInv (l : List Vr) (k : Nat) : Prop := (∀ v ∈ l.take k, okVB v = true ∧ behB l v.s v.n = false) ∧ (l.take k).Pairwise dlt
theorem VInv.start (l : List Vr) : VInv l 0 := ⟨by intro v hv; simp at hv, by rw [List.take_zero]; exact List.Pairwise.nil⟩
theorem VInv.step {l : List Vr} {k : Nat} {x : Vr} (h : VInv l k) (hx : l[k]? = some x) (ho : okVB x = true) (hb : behB l x.s x.n = false) (hd : k = 0 ∨ ∃ y, l[k - 1]? = some y ∧ dlt y x) : VInv l (k + 1) := by
  refine ⟨fun v hv => ?_, ?_⟩
  · rcases mem_take_succ hx hv with h1 | rfl
    · exact h.1 v h1
    · exact ⟨ho, hb⟩
  · rw [List.take_add_one, hx]
    refine List.pairwise_append.2 ⟨h.2, List.pairwise_singleton _ _, fun a ha b hb' => ?_⟩
    have : b = x := by simpa using hb'
    subst this
    rcases hd with h0 | ⟨y, hy, hyx⟩
    · subst h0
      simp at ha
    · obtain ⟨j, hj, rfl⟩ := List.getElem_of_mem ha
      rw [List.length_take] at hj
      rw [List.getElem_take]
      have hyl := (List.getElem?_eq_some_iff.1 hy)
      obtain ⟨hl, e⟩ := hyl
      by_cases hjk : j = k - 1
      · subst hjk
        rw [e]
        exact hyx
      · refine dlt_trans ?_ hyx
        rw [← e]
        have := List.pairwise_iff_getElem.1 h.2 j (k - 1) (by rw [List.length_take]; omega) (by rw [List.length_take]; omega) (by omega)
        rwa [List.getElem_take, List.getElem_take] at this
theorem VInv.no {l : List Vr} {k : Nat} {x : Vr} (hx : l[k]? = some x) (hb : okVB x = false ∨ behB l x.s x.n = true ∨ (0 < k ∧ ∃ y, l[k - 1]? = some y ∧ dltB y.s y.n x.s x.n = false)) : rightV l = false := by
  refine rightV_false fun h => ?_
  have hm := List.mem_of_getElem? hx
  rcases hb with hb | hb | ⟨h0, y, hy, hd⟩
  · have := (h.1.1 x hm).1
    rw [hb] at this
    cases this
  · have := (h.1.1 x hm).2
    rw [hb] at this
    cases this
  · obtain ⟨h1, e1⟩ := List.getElem?_eq_some_iff.1 hx
    obtain ⟨h2, e2⟩ := List.getElem?_eq_some_iff.1 hy
    have := List.pairwise_iff_getElem.1 h.1.2 (k - 1) k h2 h1 (by omega)
    rw [e1, e2] at this
    unfold dlt at this
    rw [hd] at this
    cases this
theorem VInv.all {l : List Vr} {n : Nat} (h : VInv l n) (hn : l.length = n) : rightV l = decide (n ≤ 512) := by
  have e : l.take n = l := List.take_of_length_le (by omega)
  unfold VInv at h
  rw [e] at h
  by_cases hc : n ≤ 512
  · rw [decide_eq_true hc]
    exact rightV_true.2 ⟨h, by omega⟩
  · rw [decide_eq_false hc]
    exact rightV_false fun h' => hc (by have := h'.2; omega)
theorem rightV_long {l : List Vr} (h : 512 < l.length) : rightV l = false := rightV_false fun h' => by have := h'.2; omega
end Go.Proofs.Ytlcfknpmnoghbaa
