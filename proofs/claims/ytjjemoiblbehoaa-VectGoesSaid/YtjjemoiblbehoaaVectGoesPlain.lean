/-
  One step of a vector, in plain Lean: what a step on by the next dot makes of it.
-/
import Derived.Test.YtjjemoiblbehoaaVectBump
import Derived.Test.YtjjemoiblbehoaaVectBelow
import Derived.Test.YtjjemoiblbehoaaVectAt
namespace Go.Proofs.Ytjjemoiblbehoaa
set_option linter.unusedVariables false

theorem set_facts {l : List Int} {m : Nat} {z b : Int} (h1 : 1 ≤ m) (h2 : m ≤ l.length) (hz : l[m - 1]? = some z) :
    (l.set (m - 1) b)[m - 1]? = some b ∧ (l.set (m - 1) b).length = l.length := by
  refine ⟨?_, by simp⟩
  rw [List.getElem?_set_self (by omega)]

theorem join_up {l : List Int} {i : Nat} {z b : Int} (hz : l[i]? = some z) (hb : z ≤ b) : joinL l (l.set i b) = l.set i b := by
  unfold joinL
  apply List.ext_getElem?
  intro j
  rw [List.getElem?_zipWith, List.getElem?_set]
  have hi : i < l.length := (List.getElem?_eq_some_iff.1 hz).1
  by_cases hij : i = j
  · subst hij
    rw [if_pos rfl, if_pos hi, hz]
    simp; omega
  · rw [if_neg hij]
    cases l[j]? <;> simp
theorem join_down {l : List Int} {i : Nat} {z b : Int} (hz : l[i]? = some z) (hb : z ≤ b) : joinL (l.set i b) l = l.set i b := by
  unfold joinL
  apply List.ext_getElem?
  intro j
  rw [List.getElem?_zipWith, List.getElem?_set]
  have hi : i < l.length := (List.getElem?_eq_some_iff.1 hz).1
  by_cases hij : i = j
  · subst hij
    rw [if_pos rfl, if_pos hi, hz]
    simp; omega
  · rw [if_neg hij]
    cases l[j]? <;> simp

structure Goes (l l' : List Int) (s b : Int) : Prop where
  bump : bumpOk l s b = true
  set : l.set (s.toNat - 1) b = l'
  again : bumpOk l' s b = false
  cov : coversB l s b = false
  cov' : coversB l' s b = true
  up : belowJ l l' = true
  down : belowJ l' l = false
  right : rightB l' = true
  len : l'.length = l.length

theorem goes_facts {l : List Int} {s a b : Int} (hN : nextOf l s = (a, b, 0)) : a = s ∧ Goes l (l.set (s.toNat - 1) b) s b := by
  obtain ⟨rfl, hr, hs1, hs2, hz, hbz⟩ := nextOf_ok hN
  refine ⟨rfl, ?_⟩
  obtain ⟨m, rfl⟩ := Int.eq_ofNat_of_zero_le (show 0 ≤ a by omega)
  have h1 : 1 ≤ m := by omega
  have h2 : m ≤ l.length := by omega
  rw [Int.toNat_natCast] at hz hbz ⊢
  obtain ⟨z, hzl⟩ : ∃ z, l[m - 1]? = some z := ⟨_, List.getElem?_eq_getElem (by omega)⟩
  have hg : l.getD (m - 1) 0 = z := by rw [List.getD_eq_getElem?_getD, hzl]; rfl
  rw [hg] at hz hbz
  obtain ⟨q1, q2⟩ := set_facts (b := b) h1 h2 hzl
  obtain ⟨r1, r2, r3⟩ := right_true hr
  have hzr := r3 z (List.mem_of_getElem? hzl)
  have hr' : rightB (l.set (m - 1) b) = true := by
    simp only [rightB, okB, Bool.and_eq_true, decide_eq_true_eq, List.all_eq_true, q2]
    refine ⟨⟨r1, r2⟩, fun x hx => ?_⟩
    rcases List.mem_or_eq_of_mem_set hx with hx | rfl
    · exact r3 x hx
    · omega
  have hb1 : 1 ≤ b := by omega
  have ju := join_up (b := b) hzl (by omega)
  have jd := join_down (b := b) hzl (by omega)
  refine ⟨by unfold bumpOk; rw [hN]; simp, by rw [Int.toNat_natCast], ?_, ?_, ?_, ?_, ?_, hr', q2⟩
  · unfold bumpOk
    rw [nextOf_at hr' h1 (by omega) q1]
    split
    · simp
    · simp; omega
  · rw [covers_at h1 h2 hzl hb1]; simp; omega
  · rw [covers_at h1 (by omega) q1 hb1]; simp
  · simp [belowJ, joinOk, hr, hr', q2, ju]
  · have hne : (l.set (m - 1) b == l) = false := by
      rw [beq_eq_false_iff_ne]
      intro e
      rw [e, hzl] at q1
      injection q1 with q1
      omega
    simp [belowJ, joinOk, hr, hr', q2, jd, hne]

theorem next_full {l : List Int} {s a b : Int} (hN : nextOf l s = (a, b, 40)) : atV l s = 4611686018427387904 := by
  unfold nextOf at hN
  split at hN
  · simp at hN
  · rename_i h1
    split at hN
    · rename_i h2
      unfold atV
      rw [if_pos (by omega), h2]
    · simp at hN
end Go.Proofs.Ytjjemoiblbehoaa
