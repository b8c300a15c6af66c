/-
  Joining sets of spans is without order and brackets, in plain Lean.
-/
import Derived.Test.YtdndjegpkbdbeaaSpanJoinsWalk
namespace Go.Proofs.Ytdndjegpkbdbeaa
set_option linter.unusedVariables false

theorem joinSE_cases (a b : List Sp) : (joinSE a b = 0 ∧ rightS a = true ∧ rightS b = true ∧ (mergeL a b).length ≤ 1024 ∧ joinSL a b = mergeL a b) ∨ (joinSE a b ≠ 0 ∧ joinSL a b = []) := by
  by_cases h1 : rightS a = true ∧ rightS b = true
  · by_cases h2 : (mergeL a b).length ≤ 1024
    · obtain ⟨e1, e2⟩ := joinS_yes h1.1 h1.2 h2
      exact .inl ⟨e2, h1.1, h1.2, h2, e1⟩
    · obtain ⟨e1, e2⟩ := joinS_full h1.1 h1.2 (by omega)
      exact .inr ⟨by rw [e2]; decide, e1⟩
  · obtain ⟨e1, e2⟩ := joinS_wrong h1
    exact .inr ⟨by rw [e2]; decide, e1⟩
theorem joinS_right {a b : List Sp} (h : joinSE a b = 0) : rightS (joinSL a b) = true ∧ ∀ s n, has (joinSL a b) s n ↔ has a s n ∨ has b s n := by
  rcases joinSE_cases a b with ⟨_, h1, h2, h3, h4⟩ | ⟨h1, _⟩
  · obtain ⟨p1, p2⟩ := mergeL_norm (rightS_true.1 h1).1 (rightS_true.1 h2).1
    rw [h4]
    exact ⟨rightS_true.2 ⟨p1, h3⟩, p2⟩
  · exact absurd h h1
theorem joinS_parts {a b : List Sp} (h : joinSE a b = 0) : rightS a = true ∧ rightS b = true := by
  rcases joinSE_cases a b with ⟨_, h1, h2, _⟩ | ⟨h1, _⟩
  · exact ⟨h1, h2⟩
  · exact absurd h h1
theorem merge_ext {a b c d : List Sp} (ha : Norm a) (hb : Norm b) (hc : Norm c) (hd : Norm d) (h : ∀ s n, (has a s n ∨ has b s n) ↔ (has c s n ∨ has d s n)) : mergeL a b = mergeL c d := by
  obtain ⟨p1, p2⟩ := mergeL_norm ha hb
  obtain ⟨q1, q2⟩ := mergeL_norm hc hd
  exact norm_ext p1 q1 fun s n => by rw [p2, q2]; exact h s n
/-- Lists with the same dots are joined alike. -/
theorem joinS_ext {a b c d : List Sp} (ha : rightS a = true) (hb : rightS b = true) (hc : rightS c = true) (hd : rightS d = true) (h : ∀ s n, (has a s n ∨ has b s n) ↔ (has c s n ∨ has d s n)) : joinSL a b = joinSL c d ∧ joinSE a b = joinSE c d := by
  have e := merge_ext (rightS_true.1 ha).1 (rightS_true.1 hb).1 (rightS_true.1 hc).1 (rightS_true.1 hd).1 h
  by_cases h2 : (mergeL a b).length ≤ 1024
  · obtain ⟨e1, e2⟩ := joinS_yes ha hb h2
    obtain ⟨e3, e4⟩ := joinS_yes hc hd (by rw [← e]; exact h2)
    rw [e1, e2, e3, e4, e]; exact ⟨rfl, rfl⟩
  · obtain ⟨e1, e2⟩ := joinS_full ha hb (by omega)
    obtain ⟨e3, e4⟩ := joinS_full hc hd (by rw [← e]; omega)
    rw [e1, e2, e3, e4]; exact ⟨rfl, rfl⟩
/-- What a set has already adds nothing. -/
theorem joinS_self {a b : List Sp} (ha : rightS a = true) (hb : rightS b = true) (h : subS b a) : joinSL a b = a ∧ joinSE a b = 0 := by
  obtain ⟨p1, p2⟩ := mergeL_norm (rightS_true.1 ha).1 (rightS_true.1 hb).1
  have e : mergeL a b = a := norm_ext p1 (rightS_true.1 ha).1 fun s n => by
    rw [p2]; exact ⟨fun h' => h'.elim id (h s n), .inl⟩
  obtain ⟨e1, e2⟩ := joinS_yes ha hb (by rw [e]; exact (rightS_true.1 ha).2)
  exact ⟨by rw [e1, e], e2⟩
theorem joinSE_two {a b : List Sp} (ha : rightS a = true) (hb : rightS b = true) : joinSE a b = 0 ∨ joinSE a b = 30 := by
  unfold joinSE
  rw [if_pos ⟨ha, hb⟩]
  split
  · exact .inl rfl
  · exact .inr rfl

/-- SpanGrows: what is joined twice. -/
theorem grows_all {a b c : List Sp} (h1 : joinSE a b = 0) (h2 : joinSE b c = 0) :
    joinSE (joinSL a b) c = joinSE a (joinSL b c) ∧ joinSL (joinSL a b) c = joinSL a (joinSL b c) ∧ joinSE (joinSL a b) b = 0 ∧ joinSL (joinSL a b) b = joinSL a b ∧ (joinSE (joinSL a b) c = 0 ∨ joinSE (joinSL a b) c = 30) := by
  obtain ⟨ha, hb⟩ := joinS_parts h1
  obtain ⟨_, hc⟩ := joinS_parts h2
  obtain ⟨r1, d1⟩ := joinS_right h1
  obtain ⟨r2, d2⟩ := joinS_right h2
  obtain ⟨e1, e2⟩ := joinS_ext r1 hc ha r2 (fun s n => by rw [d1, d2, or_assoc])
  obtain ⟨e3, e4⟩ := joinS_self r1 hb (fun s n h => (d1 s n).2 (.inr h))
  exact ⟨e2, e1, e4, e3, joinSE_two r1 hc⟩
end Go.Proofs.Ytdndjegpkbdbeaa
