/-
  A vector and the set of dots that it stands for. No program is looked at here.
-/
import Derived.Test.YtjjemoiblbehoaaVectSet
import Derived.Test.YtjjemoiblbehoaaVectHolds
import Derived.Test.YtjjemoiblbehoaaVectBelow
import Derived.Test.YtjjemoiblbehoaaSpanHas
import Derived.Test.YtjjemoiblbehoaaSpanRefJoin
namespace Go.Proofs.Ytjjemoiblbehoaa
set_option linter.unusedVariables false

theorem covers_iff {l : List Int} {s n : Int} : coversB l s n = true ↔ ∃ (k : Nat) (z : Int), s = (k : Int) + 1 ∧ l[k]? = some z ∧ 1 ≤ n ∧ n ≤ z := by
  constructor
  · intro h
    unfold coversB at h
    simp only [Bool.and_eq_true, decide_eq_true_eq] at h
    obtain ⟨⟨⟨h1, h2⟩, h3⟩, h4⟩ := h
    have hk : s.toNat - 1 < l.length := by omega
    refine ⟨s.toNat - 1, l[s.toNat - 1], by omega, List.getElem?_eq_getElem hk, h3, ?_⟩
    rwa [List.getD_eq_getElem?_getD, List.getElem?_eq_getElem hk] at h4
  · rintro ⟨k, z, rfl, hz, h1, h2⟩
    have hk := (List.getElem?_eq_some_iff.1 hz).1
    have := covers_at (l := l) (m := k + 1) (n := n) (by omega) (by omega) hz h1
    rw [show ((k : Int) + 1) = ((k + 1 : Nat) : Int) by omega, this]
    simpa using h2
theorem mem_setTo {l : List Int} : ∀ {k : Nat} {x : Sp}, k ≤ l.length → (x ∈ setTo l k ↔ ∃ (j : Nat) (z : Int), j < k ∧ l[j]? = some z ∧ 0 < z ∧ x = ((j : Int) + 1, 1, z)) := by
  intro k
  induction k with
  | zero => intro x _; simp [setTo]
  | succ k ih =>
    intro x hk
    have hz : l[k]? = some l[k] := List.getElem?_eq_getElem (by omega)
    rw [setTo_step hz, List.mem_append, ih (by omega)]
    constructor
    · rintro (⟨j, z, h1, h2, h3, h4⟩ | h)
      · exact ⟨j, z, by omega, h2, h3, h4⟩
      · split at h
        · rename_i hp
          exact ⟨k, l[k], by omega, hz, hp, List.mem_singleton.1 h⟩
        · cases h
    · rintro ⟨j, z, h1, h2, h3, rfl⟩
      by_cases hj : j = k
      · subst hj
        rw [hz] at h2
        injection h2 with h2
        subst h2
        exact .inr (by rw [if_pos h3]; simp)
      · exact .inl ⟨j, z, by omega, h2, h3, rfl⟩
theorem setTo_norm {l : List Int} (h : ∀ z ∈ l, 0 ≤ z ∧ z ≤ 4611686018427387904) (hl : l.length ≤ 16) : ∀ {k : Nat}, k ≤ l.length → Norm (setTo l k) := by
  intro k
  induction k with
  | zero => intro _; exact Norm.nil
  | succ k ih =>
    intro hk
    have hz : l[k]? = some l[k] := List.getElem?_eq_getElem (by omega)
    have hb := h _ (List.getElem_mem (show k < l.length by omega))
    rw [setTo_step hz]
    split
    · refine norm_snoc (ih (by omega)) ?_ ?_
      · unfold okSp; simp only; omega
      · intro y hy
        obtain ⟨j, z, h1, _, _, rfl⟩ := (mem_setTo (by omega)).1 hy
        exact .inl (by simp only; omega)
    · rw [List.append_nil]; exact ih (by omega)
theorem set_right {l : List Int} (h : rightB l = true) : rightS (setL l) = true := by
  obtain ⟨h1, h2, h3⟩ := right_true h
  have := setTo_len l l.length
  unfold setL
  rw [if_pos h]
  exact rightS_true.2 ⟨setTo_norm h3 h2 (Nat.le_refl _), by omega⟩
theorem has_set {l : List Int} (h : rightB l = true) (s n : Int) : has (setL l) s n ↔ coversB l s n = true := by
  unfold setL
  rw [if_pos h, covers_iff]
  constructor
  · rintro ⟨x, hx, h1, h2, h3⟩
    obtain ⟨j, z, hj, hz, hp, rfl⟩ := (mem_setTo (Nat.le_refl _)).1 hx
    exact ⟨j, z, h1.symm, hz, h2, h3⟩
  · rintro ⟨k, z, rfl, hz, h1, h2⟩
    exact ⟨_, (mem_setTo (Nat.le_refl _)).2 ⟨k, z, (List.getElem?_eq_some_iff.1 hz).1, hz, by omega, rfl⟩, rfl, h1, h2⟩
theorem covers_has {l : List Int} (h : rightB l = true) (s n : Int) : coversB l s n = hasB (setL l) s n := by
  cases hc : coversB l s n
  · exact (hasB_false (fun h' => by rw [has_set h, hc] at h'; cases h')).symm
  · exact (hasB_true.2 ((has_set h s n).2 hc)).symm
theorem join_right {a b : List Int} (h : joinOk a b = true) : rightB (joinL a b) = true := by
  unfold joinOk at h
  simp only [Bool.and_eq_true, decide_eq_true_eq] at h
  obtain ⟨⟨ha, hb⟩, hl⟩ := h
  obtain ⟨a1, a2, a3⟩ := right_true ha
  obtain ⟨b1, b2, b3⟩ := right_true hb
  have hlen : (joinL a b).length = a.length := by simp [joinL, hl]
  unfold rightB
  rw [hlen]
  simp only [Bool.and_eq_true, decide_eq_true_eq, List.all_eq_true]
  refine ⟨⟨a1, a2⟩, fun z hz => ?_⟩
  obtain ⟨i, hi⟩ := List.getElem?_of_mem hz
  have hil := (List.getElem?_eq_some_iff.1 hi).1
  have ha' : a[i]? = some a[i] := List.getElem?_eq_getElem (by omega)
  have hb' : b[i]? = some b[i] := List.getElem?_eq_getElem (by omega)
  rw [join_at ha' hb'] at hi
  injection hi with hi
  subst hi
  have h1 := a3 _ (List.getElem_mem (show i < a.length by omega))
  have h2 := b3 _ (List.getElem_mem (show i < b.length by omega))
  simp only [okB, Bool.and_eq_true, decide_eq_true_eq]
  omega
theorem covers_join {a b : List Int} (h : a.length = b.length) (s n : Int) : coversB (joinL a b) s n = true ↔ coversB a s n = true ∨ coversB b s n = true := by
  rw [covers_iff, covers_iff, covers_iff]
  constructor
  · rintro ⟨k, z, rfl, hz, h1, h2⟩
    have hk := (List.getElem?_eq_some_iff.1 hz).1
    have hlen : (joinL a b).length = a.length := by simp [joinL, h]
    have ha' : a[k]? = some a[k] := List.getElem?_eq_getElem (by omega)
    have hb' : b[k]? = some b[k] := List.getElem?_eq_getElem (by omega)
    rw [join_at ha' hb'] at hz
    injection hz with hz
    rw [← hz] at h2
    by_cases hc : n ≤ a[k]
    · exact .inl ⟨k, _, rfl, ha', h1, hc⟩
    · exact .inr ⟨k, _, rfl, hb', h1, by omega⟩
  · rintro (⟨k, z, rfl, hz, h1, h2⟩ | ⟨k, z, rfl, hz, h1, h2⟩)
    · have hk := (List.getElem?_eq_some_iff.1 hz).1
      have hb' : b[k]? = some b[k] := List.getElem?_eq_getElem (by omega)
      exact ⟨k, _, rfl, join_at hz hb', h1, by omega⟩
    · have hk := (List.getElem?_eq_some_iff.1 hz).1
      have ha' : a[k]? = some a[k] := List.getElem?_eq_getElem (by omega)
      exact ⟨k, _, rfl, join_at ha' hz, h1, by omega⟩
theorem joinOk_three {a b : List Int} (h : joinOk a b = true) : rightB a = true ∧ rightB b = true ∧ a.length = b.length := by
  unfold joinOk at h
  simp only [Bool.and_eq_true, decide_eq_true_eq] at h
  exact ⟨h.1.1, h.1.2, h.2⟩
theorem merge_set {a b : List Int} (h : joinOk a b = true) : mergeL (setL a) (setL b) = setL (joinL a b) := by
  obtain ⟨ha, hb, hl⟩ := joinOk_three h
  have hj := join_right h
  obtain ⟨m1, m2⟩ := mergeL_norm (rightS_true.1 (set_right ha)).1 (rightS_true.1 (set_right hb)).1
  refine norm_ext m1 (rightS_true.1 (set_right hj)).1 fun s n => ?_
  rw [m2, has_set ha, has_set hb, has_set hj, covers_join hl]
theorem join_set {a b : List Int} (h : joinOk a b = true) : joinSL (setL a) (setL b) = setL (joinL a b) ∧ joinSE (setL a) (setL b) = 0 := by
  obtain ⟨ha, hb, hl⟩ := joinOk_three h
  have e := merge_set h
  have hs := (rightS_true.1 (set_right (join_right h))).2
  obtain ⟨h1, h2⟩ := joinS_yes (set_right ha) (set_right hb) (by rw [e]; exact hs)
  exact ⟨by rw [h1, e], h2⟩
theorem sub_covers {a b : List Int} (ha : rightB a = true) (hb : rightB b = true) : subS (setL a) (setL b) ↔ ∀ s n, coversB a s n = true → coversB b s n = true := by
  unfold subS
  simp only [has_set ha, has_set hb]
theorem holds_within {a b : List Int} (ha : rightB a = true) (hb : rightB b = true) : holdsB a (setL b) = withinS (setL b) (setL a) := by
  have key : holdsB a (setL b) = true ↔ subS (setL b) (setL a) := by
    rw [sub_covers hb ha]
    unfold holdsB
    rw [List.all_eq_true]
    constructor
    · intro h s n hc
      obtain ⟨x, hx, h1, h2, h3⟩ := (has_set hb s n).2 hc
      have h4 := h x hx
      have hok := (rightS_true.1 (set_right hb)).1.1 x hx
      rw [covers_iff] at h4 ⊢
      obtain ⟨k, z, e, hz, g1, g2⟩ := h4
      unfold okSp at hok
      exact ⟨k, z, by omega, hz, by omega, by omega⟩
    · intro h x hx
      have hok := (rightS_true.1 (set_right hb)).1.1 x hx
      unfold okSp at hok
      exact h _ _ ((has_set hb _ _).1 ⟨x, hx, rfl, by omega, Int.le_refl _⟩)
  rw [Bool.eq_iff_iff, key, withinS_true]
  exact ⟨fun h => ⟨set_right hb, set_right ha, h⟩, fun h => h.2.2⟩
theorem holds_join {a b : List Int} (h : joinOk a b = true) : holdsB (joinL a b) (setL b) = true := by
  obtain ⟨ha, hb, hl⟩ := joinOk_three h
  rw [holds_within (join_right h) hb, withinS_true]
  exact ⟨set_right hb, set_right (join_right h), (sub_covers hb (join_right h)).2 fun s n hc => (covers_join hl s n).2 (.inr hc)⟩
theorem below_within {a b : List Int} (h : joinOk a b = true) : belowJ a b = withinS (setL a) (setL b) := by
  obtain ⟨ha, hb, hl⟩ := joinOk_three h
  have hlen : (joinL a b).length = b.length := by simp [joinL, hl]
  unfold belowJ
  rw [h, Bool.true_and, Bool.eq_iff_iff, withinS_true, beq_iff_eq, sub_covers ha hb]
  constructor
  · intro e
    exact ⟨set_right ha, set_right hb, fun s n hc => by rw [← e]; exact (covers_join hl s n).2 (.inl hc)⟩
  · rintro ⟨_, _, hc⟩
    refine List.ext_getElem? fun k => ?_
    rcases Nat.lt_or_ge k b.length with hk | hk
    · have ha' : a[k]? = some a[k] := List.getElem?_eq_getElem (by omega)
      have hb' : b[k]? = some b[k] := List.getElem?_eq_getElem (by omega)
      rw [join_at ha' hb', hb']
      congr 1
      have b0 := (right_true hb).2.2 _ (List.getElem_mem hk)
      rcases Int.lt_or_le 0 a[k] with hp | hp
      · have := covers_iff.1 (hc ((k : Int) + 1) a[k] (covers_iff.2 ⟨k, _, rfl, ha', by omega, Int.le_refl _⟩))
        obtain ⟨k', z, e, hz, _, h2⟩ := this
        obtain rfl : k = k' := by omega
        rw [hb'] at hz
        injection hz with hz
        omega
      · omega
    · rw [List.getElem?_eq_none (by omega), List.getElem?_eq_none (by omega)]
end Go.Proofs.Ytjjemoiblbehoaa
