/-
  Layer 3 in plain Lean: sets of dots as spans. A right list is determined by its dots. No program is looked at here.
-/
import Derived.Test.YtlhcohpcjleekaaSpanMem
namespace Go.Proofs.Ytlhcohpcjleekaa
set_option linter.unusedVariables false

/-- One right span. -/
def okSp (x : Sp) : Prop := 1 ≤ x.1 ∧ x.1 ≤ 16 ∧ 1 ≤ x.2.1 ∧ x.2.1 ≤ x.2.2 ∧ x.2.2 ≤ 4611686018427387904
/-- y lies behind x, and does not touch it. -/
def gap (x y : Sp) : Prop := x.1 < y.1 ∨ (x.1 = y.1 ∧ x.2.2 + 1 < y.2.1)
/-- Right but for the number of spans. -/
def Norm (l : List Sp) : Prop := (∀ x ∈ l, okSp x) ∧ l.Pairwise gap
/-- The dot (s, n) is in a span, in a list. -/
def inSp (x : Sp) (s n : Int) : Prop := x.1 = s ∧ x.2.1 ≤ n ∧ n ≤ x.2.2
def has (l : List Sp) (s n : Int) : Prop := ∃ x ∈ l, inSp x s n
/-- x begins no later than y. -/
def startLe (x y : Sp) : Prop := x.1 < y.1 ∨ (x.1 = y.1 ∧ x.2.1 ≤ y.2.1)

theorem has_nil (s n : Int) : ¬ has [] s n := by rintro ⟨x, h, _⟩; cases h
theorem has_cons (x : Sp) (l : List Sp) (s n : Int) : has (x :: l) s n ↔ inSp x s n ∨ has l s n := by
  constructor
  · rintro ⟨y, hy, h⟩
    rcases List.mem_cons.1 hy with rfl | hy
    · exact .inl h
    · exact .inr ⟨y, hy, h⟩
  · rintro (h | ⟨y, hy, h⟩)
    · exact ⟨x, List.mem_cons_self .., h⟩
    · exact ⟨y, List.mem_cons_of_mem _ hy, h⟩
theorem has_append (a b : List Sp) (s n : Int) : has (a ++ b) s n ↔ has a s n ∨ has b s n := by
  constructor
  · rintro ⟨y, hy, h⟩
    rcases List.mem_append.1 hy with hy | hy
    · exact .inl ⟨y, hy, h⟩
    · exact .inr ⟨y, hy, h⟩
  · rintro (⟨y, hy, h⟩ | ⟨y, hy, h⟩)
    · exact ⟨y, List.mem_append.2 (.inl hy), h⟩
    · exact ⟨y, List.mem_append.2 (.inr hy), h⟩

theorem gap_trans {x y z : Sp} (h1 : gap x y) (hy : okSp y) (h2 : gap y z) : gap x z := by
  unfold gap okSp at *; omega
theorem gap_startLe {x y : Sp} (hx : okSp x) (h : gap x y) : startLe x y := by unfold gap okSp startLe at *; omega
theorem gap_not_in {x y : Sp} {s n : Int} (h : gap x y) (h1 : inSp x s n) (h2 : inSp y s n) : False := by unfold gap inSp at *; omega

theorem Norm.nil : Norm [] := ⟨by simp, List.Pairwise.nil⟩
theorem Norm.tail {x : Sp} {l : List Sp} (h : Norm (x :: l)) : Norm l := ⟨fun y hy => h.1 y (List.mem_cons_of_mem _ hy), (List.pairwise_cons.1 h.2).2⟩
theorem Norm.head {x : Sp} {l : List Sp} (h : Norm (x :: l)) : okSp x := h.1 x (List.mem_cons_self ..)
theorem Norm.gaps {x : Sp} {l : List Sp} (h : Norm (x :: l)) : ∀ y ∈ l, gap x y := (List.pairwise_cons.1 h.2).1
theorem Norm.cons {x : Sp} {l : List Sp} (hx : okSp x) (hg : ∀ y ∈ l, gap x y) (h : Norm l) : Norm (x :: l) :=
  ⟨fun y hy => by
    rcases List.mem_cons.1 hy with rfl | hy
    · exact hx
    · exact h.1 y hy, List.pairwise_cons.2 ⟨hg, h.2⟩⟩

/-- The first dot of a right list begins its first span: what else is in it comes behind. -/
theorem Norm.first {x : Sp} {l : List Sp} (h : Norm (x :: l)) {s n : Int} (hd : has (x :: l) s n) : x.1 < s ∨ (x.1 = s ∧ x.2.1 ≤ n) := by
  obtain ⟨y, hy, hi⟩ := hd
  rcases List.mem_cons.1 hy with rfl | hy
  · unfold inSp at hi; omega
  · have := h.gaps y hy
    have hx := h.head
    unfold gap okSp inSp at *; omega

theorem first_same {x y : Sp} {a b : List Sp} (ha : Norm (x :: a)) (hb : Norm (y :: b)) (h : ∀ s n, has (x :: a) s n ↔ has (y :: b) s n) : x = y := by
  have hx := ha.head
  have hy := hb.head
  have h1 := hb.first ((h x.1 x.2.1).1 ⟨x, List.mem_cons_self .., rfl, Int.le_refl _, hx.2.2.2.1⟩)
  have h2 := ha.first ((h y.1 y.2.1).2 ⟨y, List.mem_cons_self .., rfl, Int.le_refl _, hy.2.2.2.1⟩)
  have e1 : x.1 = y.1 := by omega
  have e2 : x.2.1 = y.2.1 := by omega
  have key : ∀ (p q : Sp) (u v : List Sp), Norm (p :: u) → okSp q → p.1 = q.1 → p.2.1 = q.2.1 → (∀ s n, has (q :: v) s n → has (p :: u) s n) → ¬ p.2.2 < q.2.2 := by
    intro p q u v hp hq f1 f2 hh hlt
    obtain ⟨z, hz, hi⟩ := hh q.1 (p.2.2 + 1) ⟨q, List.mem_cons_self .., rfl, by have := hp.head; unfold okSp at *; omega, by omega⟩
    rcases List.mem_cons.1 hz with rfl | hz
    · unfold inSp at hi; omega
    · have := hp.gaps z hz
      unfold gap inSp at *; omega
  have k1 := key x y a b ha hy e1 e2 (fun s n => (h s n).2)
  have k2 := key y x b a hb hx e1.symm e2.symm (fun s n => (h s n).1)
  have e3 : x.2.2 = y.2.2 := by omega
  exact Prod.ext e1 (Prod.ext e2 e3)

/-- A right list is determined by its dots. -/
theorem norm_ext : ∀ {a b : List Sp}, Norm a → Norm b → (∀ s n, has a s n ↔ has b s n) → a = b
  | [], [], _, _, _ => rfl
  | [], y :: b, _, hb, h => absurd ((h y.1 y.2.1).2 ⟨y, List.mem_cons_self .., rfl, Int.le_refl _, hb.head.2.2.2.1⟩) (has_nil _ _)
  | x :: a, [], ha, _, h => absurd ((h x.1 x.2.1).1 ⟨x, List.mem_cons_self .., rfl, Int.le_refl _, ha.head.2.2.2.1⟩) (has_nil _ _)
  | x :: a, y :: b, ha, hb, h => by
    have e := first_same ha hb h
    subst e
    have : a = b := norm_ext ha.tail hb.tail (fun s n => by
      have := h s n
      rw [has_cons, has_cons] at this
      constructor
      · intro hd
        rcases this.1 (.inr hd) with h1 | h1
        · obtain ⟨z, hz, hi⟩ := hd
          exact (gap_not_in (ha.gaps z hz) h1 hi).elim
        · exact h1
      · intro hd
        rcases this.2 (.inr hd) with h1 | h1
        · obtain ⟨z, hz, hi⟩ := hd
          exact (gap_not_in (hb.gaps z hz) h1 hi).elim
        · exact h1)
    rw [this]

/-! ### The merging of two lists -/
/-- A span comes behind what is gathered: it goes on the last one, or becomes the last one. -/
def pushS (out : List Sp) (x : Sp) : List Sp :=
  match out.getLast? with
  | none => [x]
  | some z => if z.1 = x.1 ∧ x.2.1 ≤ z.2.2 + 1 then out.dropLast ++ [(z.1, z.2.1, max z.2.2 x.2.2)] else out ++ [x]

theorem pushS_nil (x : Sp) : pushS [] x = [x] := rfl
theorem pushS_snoc (out : List Sp) (z x : Sp) : pushS (out ++ [z]) x = if z.1 = x.1 ∧ x.2.1 ≤ z.2.2 + 1 then out ++ [(z.1, z.2.1, max z.2.2 x.2.2)] else out ++ [z] ++ [x] := by
  simp [pushS]

theorem norm_snoc {out : List Sp} {x : Sp} (h : Norm out) (hx : okSp x) (hg : ∀ y ∈ out, gap y x) : Norm (out ++ [x]) :=
  ⟨fun y hy => by
    rcases List.mem_append.1 hy with hy | hy
    · exact h.1 y hy
    · rw [List.mem_singleton] at hy; subst hy; exact hx,
   List.pairwise_append.2 ⟨h.2, List.pairwise_singleton _ _, fun a ha b hb => by rw [List.mem_singleton] at hb; subst hb; exact hg a ha⟩⟩
theorem norm_init {out : List Sp} {z : Sp} (h : Norm (out ++ [z])) : Norm out ∧ okSp z ∧ ∀ y ∈ out, gap y z := by
  have hp := List.pairwise_append.1 h.2
  exact ⟨⟨fun y hy => h.1 y (List.mem_append.2 (.inl hy)), hp.1⟩, h.1 z (by simp), fun y hy => hp.2.2 y hy z (by simp)⟩

theorem pushS_norm {out : List Sp} {x : Sp} (h : Norm out) (hx : okSp x) (hs : ∀ y ∈ out, startLe y x) :
    Norm (pushS out x) ∧ (∀ s n, has (pushS out x) s n ↔ has out s n ∨ inSp x s n) ∧ (∀ w, startLe x w → ∀ y ∈ pushS out x, startLe y w) := by
  rcases List.eq_nil_or_concat out with rfl | ⟨o, z, rfl⟩
  · rw [pushS_nil]
    refine ⟨Norm.cons hx (by simp) Norm.nil, fun s n => ?_, fun w hw y hy => ?_⟩
    · rw [has_cons]
      constructor
      · rintro (h | h)
        · exact .inr h
        · exact (has_nil _ _ h).elim
      · rintro (h | h)
        · exact (has_nil _ _ h).elim
        · exact .inl h
    · rw [List.mem_singleton] at hy; subst hy; exact hw
  · rw [List.concat_eq_append] at *
    obtain ⟨hno, hz, hgz⟩ := norm_init h
    have hsz := hs z (by simp)
    rw [pushS_snoc]
    by_cases hc : z.1 = x.1 ∧ x.2.1 ≤ z.2.2 + 1
    · rw [if_pos hc]
      refine ⟨norm_snoc hno ?_ fun y hy => ?_, fun s n => ?_, fun w hw y hy => ?_⟩
      · unfold okSp at *; simp only; omega
      · have := hgz y hy; unfold gap at *; simpa using this
      · rw [has_append, has_append, has_cons, has_cons]
        have e : inSp (z.1, z.2.1, max z.2.2 x.2.2) s n ↔ inSp z s n ∨ inSp x s n := by
          unfold inSp startLe okSp at *; simp only; omega
        rw [e]
        have hn := has_nil s n
        constructor
        · rintro (h | (h | h) | h)
          · exact .inl (.inl h)
          · exact .inl (.inr (.inl h))
          · exact .inr h
          · exact (hn h).elim
        · rintro ((h | h | h) | h)
          · exact .inl h
          · exact .inr (.inl (.inl h))
          · exact (hn h).elim
          · exact .inr (.inl (.inr h))
      · have hxw := hw
        rcases List.mem_append.1 hy with hy | hy
        · have h1 := hs y (by simp [hy])
          unfold startLe at *; omega
        · rw [List.mem_singleton] at hy; subst hy
          unfold startLe at *; simp only; omega
    · rw [if_neg hc]
      have hzx : gap z x := by unfold gap startLe okSp at *; omega
      refine ⟨norm_snoc h hx fun y hy => ?_, fun s n => ?_, fun w hw y hy => ?_⟩
      · rcases List.mem_append.1 hy with hy | hy
        · exact gap_trans (hgz y hy) hz hzx
        · rw [List.mem_singleton] at hy; subst hy; exact hzx
      · rw [has_append (o ++ [z]) [x], has_cons x []]
        have hn := has_nil s n
        constructor
        · rintro (h | h | h)
          · exact .inl h
          · exact .inr h
          · exact (hn h).elim
        · rintro (h | h)
          · exact .inl h
          · exact .inr (.inl h)
      · rcases List.mem_append.1 hy with hy | hy
        · have h1 := hs y hy
          unfold startLe at *; omega
        · rw [List.mem_singleton] at hy; subst hy; exact hw

end Go.Proofs.Ytlhcohpcjleekaa
