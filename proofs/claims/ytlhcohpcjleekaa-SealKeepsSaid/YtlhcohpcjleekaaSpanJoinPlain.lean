/-
  Two sets of spans put together, in plain Lean: by merging, and by laying one span after another into the list: both are the same.
-/
import Derived.Test.YtlhcohpcjleekaaSpanPlain
namespace Go.Proofs.Ytlhcohpcjleekaa
set_option linter.unusedVariables false

/-- x comes first. -/
def beforeB (x y : Sp) : Bool := decide (x.1 < y.1) || (decide (x.1 = y.1) && decide (x.2.1 < y.2.1))
theorem beforeB_true {x y : Sp} : beforeB x y = true ↔ x.1 < y.1 ∨ (x.1 = y.1 ∧ x.2.1 < y.2.1) := by
  unfold beforeB
  rw [Bool.or_eq_true, Bool.and_eq_true, decide_eq_true_iff, decide_eq_true_iff, decide_eq_true_iff]

def mergeF : Nat → List Sp → List Sp → List Sp → List Sp
  | 0, _, _, out => out
  | _ + 1, [], [], out => out
  | f + 1, x :: a, [], out => mergeF f a [] (pushS out x)
  | f + 1, [], y :: b, out => mergeF f [] b (pushS out y)
  | f + 1, x :: a, y :: b, out => if beforeB x y then mergeF f a (y :: b) (pushS out x) else mergeF f (x :: a) b (pushS out y)
def mergeL (a b : List Sp) : List Sp := mergeF (a.length + b.length) a b []

theorem mergeF_norm : ∀ (f : Nat) (a b out : List Sp), a.length + b.length ≤ f → Norm a → Norm b → Norm out → (∀ y ∈ out, ∀ z ∈ a, startLe y z) → (∀ y ∈ out, ∀ z ∈ b, startLe y z) →
    Norm (mergeF f a b out) ∧ ∀ s n, has (mergeF f a b out) s n ↔ has out s n ∨ has a s n ∨ has b s n := by
  intro f
  induction f with
  | zero =>
    intro a b out hf ha hb ho h1 h2
    have e1 : a = [] := List.eq_nil_of_length_eq_zero (by omega)
    have e2 : b = [] := List.eq_nil_of_length_eq_zero (by omega)
    subst e1 e2
    refine ⟨ho, fun s n => ?_⟩
    have := has_nil s n
    constructor
    · exact .inl
    · rintro (h | h | h)
      · exact h
      · exact (this h).elim
      · exact (this h).elim
  | succ f ih =>
    intro a b out hf ha hb ho h1 h2
    match a, b, hf, ha, hb, h1, h2 with
    | [], [], hf, ha, hb, h1, h2 =>
      refine ⟨ho, fun s n => ?_⟩
      have := has_nil s n
      constructor
      · exact .inl
      · rintro (h | h | h)
        · exact h
        · exact (this h).elim
        · exact (this h).elim
    | x :: a, [], hf, ha, hb, h1, h2 =>
      obtain ⟨p1, p2, p3⟩ := pushS_norm ho ha.head (fun y hy => h1 y hy x (List.mem_cons_self ..))
      obtain ⟨q1, q2⟩ := ih a [] (pushS out x) (by simp at hf ⊢; omega) ha.tail hb p1 (fun y hy z hz => p3 z (gap_startLe ha.head (ha.gaps z hz)) y hy) (fun y hy z hz => by cases hz)
      refine ⟨q1, fun s n => ?_⟩
      rw [mergeF, q2, p2, has_cons]
      constructor
      · rintro ((h | h) | h | h)
        · exact .inl h
        · exact .inr (.inl (.inl h))
        · exact .inr (.inl (.inr h))
        · exact .inr (.inr h)
      · rintro (h | (h | h) | h)
        · exact .inl (.inl h)
        · exact .inl (.inr h)
        · exact .inr (.inl h)
        · exact .inr (.inr h)
    | [], y :: b, hf, ha, hb, h1, h2 =>
      obtain ⟨p1, p2, p3⟩ := pushS_norm ho hb.head (fun z hz => h2 z hz y (List.mem_cons_self ..))
      obtain ⟨q1, q2⟩ := ih [] b (pushS out y) (by simp at hf ⊢; omega) ha hb.tail p1 (fun y hy z hz => by cases hz) (fun w hw z hz => p3 z (gap_startLe hb.head (hb.gaps z hz)) w hw)
      refine ⟨q1, fun s n => ?_⟩
      rw [mergeF, q2, p2, has_cons]
      constructor
      · rintro ((h | h) | h | h)
        · exact .inl h
        · exact .inr (.inr (.inl h))
        · exact .inr (.inl h)
        · exact .inr (.inr (.inr h))
      · rintro (h | h | h | h)
        · exact .inl (.inl h)
        · exact .inr (.inl h)
        · exact .inl (.inr h)
        · exact .inr (.inr h)
    | x :: a, y :: b, hf, ha, hb, h1, h2 =>
      by_cases hbf : beforeB x y = true
      · obtain ⟨p1, p2, p3⟩ := pushS_norm ho ha.head (fun z hz => h1 z hz x (List.mem_cons_self ..))
        have hxy : startLe x y := by have := beforeB_true.1 hbf; unfold startLe; omega
        have hxb : ∀ z ∈ y :: b, startLe x z := fun z hz => by
          rcases List.mem_cons.1 hz with rfl | hz
          · exact hxy
          · have := gap_startLe hb.head (hb.gaps z hz); unfold startLe at *; omega
        obtain ⟨q1, q2⟩ := ih a (y :: b) (pushS out x) (by simp at hf ⊢; omega) ha.tail hb p1 (fun w hw z hz => p3 z (gap_startLe ha.head (ha.gaps z hz)) w hw) (fun w hw z hz => p3 z (hxb z hz) w hw)
        rw [mergeF, if_pos hbf]
        refine ⟨q1, fun s n => ?_⟩
        rw [q2, p2, has_cons x a]
        constructor
        · rintro ((h | h) | h | h)
          · exact .inl h
          · exact .inr (.inl (.inl h))
          · exact .inr (.inl (.inr h))
          · exact .inr (.inr h)
        · rintro (h | (h | h) | h)
          · exact .inl (.inl h)
          · exact .inl (.inr h)
          · exact .inr (.inl h)
          · exact .inr (.inr h)
      · obtain ⟨p1, p2, p3⟩ := pushS_norm ho hb.head (fun z hz => h2 z hz y (List.mem_cons_self ..))
        have hyx : startLe y x := by
          have : ¬ (x.1 < y.1 ∨ (x.1 = y.1 ∧ x.2.1 < y.2.1)) := fun h => hbf (beforeB_true.2 h)
          unfold startLe; omega
        have hya : ∀ z ∈ x :: a, startLe y z := fun z hz => by
          rcases List.mem_cons.1 hz with rfl | hz
          · exact hyx
          · have := gap_startLe ha.head (ha.gaps z hz); unfold startLe at *; omega
        obtain ⟨q1, q2⟩ := ih (x :: a) b (pushS out y) (by simp at hf ⊢; omega) ha hb.tail p1 (fun w hw z hz => p3 z (hya z hz) w hw) (fun w hw z hz => p3 z (gap_startLe hb.head (hb.gaps z hz)) w hw)
        rw [mergeF, if_neg hbf]
        refine ⟨q1, fun s n => ?_⟩
        rw [q2, p2, has_cons y b]
        constructor
        · rintro ((h | h) | h | h)
          · exact .inl h
          · exact .inr (.inr (.inl h))
          · exact .inr (.inl h)
          · exact .inr (.inr (.inr h))
        · rintro (h | h | h | h)
          · exact .inl (.inl h)
          · exact .inr (.inl h)
          · exact .inl (.inr h)
          · exact .inr (.inr h)

theorem mergeL_norm {a b : List Sp} (ha : Norm a) (hb : Norm b) : Norm (mergeL a b) ∧ ∀ s n, has (mergeL a b) s n ↔ has a s n ∨ has b s n := by
  obtain ⟨h1, h2⟩ := mergeF_norm (a.length + b.length) a b [] (Nat.le_refl _) ha hb Norm.nil (fun y hy => by cases hy) (fun y hy => by cases hy)
  refine ⟨h1, fun s n => ?_⟩
  rw [mergeL, h2]
  have := has_nil s n
  constructor
  · rintro (h | h)
    · exact (this h).elim
    · exact h
  · exact .inr

/-! ### One span laid into a list -/
def touch (y x : Sp) : Prop := y.1 = x.1 ∧ y.2.1 - 1 ≤ x.2.2 ∧ x.2.1 - 1 ≤ y.2.2
instance (y x : Sp) : Decidable (touch y x) := by unfold touch; infer_instance
def growS (y x : Sp) : Sp := (x.1, min y.2.1 x.2.1, max y.2.2 x.2.2)
def behind (y x : Sp) : Prop := x.1 < y.1 ∨ (y.1 = x.1 ∧ x.2.2 < y.2.1)
instance (y x : Sp) : Decidable (behind y x) := by unfold behind; infer_instance

def putS : List Sp → Sp → List Sp
  | [], x => [x]
  | y :: l, x => if touch y x then putS l (growS y x) else if behind y x then x :: y :: l else y :: putS l x

theorem grow_ok {x y : Sp} (hx : okSp x) (hy : okSp y) (h : touch y x) : okSp (growS y x) := by unfold okSp growS touch at *; simp only; omega
theorem grow_in {x y : Sp} (hx : okSp x) (hy : okSp y) (h : touch y x) (s n : Int) : inSp (growS y x) s n ↔ inSp y s n ∨ inSp x s n := by unfold okSp growS touch inSp at *; simp only; omega

theorem putS_gap : ∀ (l : List Sp) (x y : Sp), (∀ z ∈ l, gap y z) → gap y x → ∀ w ∈ putS l x, gap y w
  | [], x, y, _, hx, w, hw => by
    rw [putS, List.mem_singleton] at hw; subst hw; exact hx
  | z :: l, x, y, hl, hx, w, hw => by
    have hz := hl z (List.mem_cons_self ..)
    have hl' := fun u hu => hl u (List.mem_cons_of_mem _ hu)
    rw [putS] at hw
    split at hw
    · rename_i ht
      exact putS_gap l (growS z x) y hl' (by unfold gap growS touch at *; simp only; omega) w hw
    · split at hw
      · rcases List.mem_cons.1 hw with rfl | hw
        · exact hx
        · exact hl w hw
      · rcases List.mem_cons.1 hw with rfl | hw
        · exact hz
        · exact putS_gap l x y hl' hx w hw

theorem putS_norm : ∀ (l : List Sp) (x : Sp), Norm l → okSp x → Norm (putS l x) ∧ ∀ s n, has (putS l x) s n ↔ has l s n ∨ inSp x s n
  | [], x, _, hx => by
    refine ⟨Norm.cons hx (by simp) Norm.nil, fun s n => ?_⟩
    rw [putS, has_cons]
    exact ⟨fun h => h.symm, fun h => h.symm⟩
  | y :: l, x, hl, hx => by
    have hy := hl.head
    rw [putS]
    split
    · rename_i ht
      obtain ⟨q1, q2⟩ := putS_norm l (growS y x) hl.tail (grow_ok hx hy ht)
      refine ⟨q1, fun s n => ?_⟩
      rw [q2, grow_in hx hy ht, has_cons]
      constructor
      · rintro (h | h | h)
        · exact .inl (.inr h)
        · exact .inl (.inl h)
        · exact .inr h
      · rintro ((h | h) | h)
        · exact .inr (.inl h)
        · exact .inl h
        · exact .inr (.inr h)
    · rename_i ht
      split
      · rename_i hb
        have hg : gap x y := by unfold gap touch behind okSp at *; omega
        refine ⟨Norm.cons hx (fun z hz => ?_) hl, fun s n => ?_⟩
        · rcases List.mem_cons.1 hz with rfl | hz
          · exact hg
          · exact gap_trans hg hy (hl.gaps z hz)
        · rw [has_cons x]
          exact ⟨fun h => h.symm, fun h => h.symm⟩
      · rename_i hb
        have hg : gap y x := by unfold gap touch behind okSp at *; omega
        obtain ⟨q1, q2⟩ := putS_norm l x hl.tail hx
        refine ⟨Norm.cons hy (putS_gap l x y hl.gaps hg) q1, fun s n => ?_⟩
        rw [has_cons, q2, has_cons]
        constructor
        · rintro (h | h | h)
          · exact .inl (.inl h)
          · exact .inl (.inr h)
          · exact .inr h
        · rintro ((h | h) | h)
          · exact .inl h
          · exact .inr (.inl h)
          · exact .inr (.inr h)

theorem foldPut_norm : ∀ (b a : List Sp), Norm a → (∀ y ∈ b, okSp y) → Norm (b.foldl putS a) ∧ ∀ s n, has (b.foldl putS a) s n ↔ has a s n ∨ has b s n
  | [], a, ha, _ => ⟨ha, fun s n => ⟨.inl, fun h => h.elim id (fun h => (has_nil _ _ h).elim)⟩⟩
  | y :: b, a, ha, hb => by
    obtain ⟨p1, p2⟩ := putS_norm a y ha (hb y (List.mem_cons_self ..))
    obtain ⟨q1, q2⟩ := foldPut_norm b (putS a y) p1 (fun z hz => hb z (List.mem_cons_of_mem _ hz))
    refine ⟨q1, fun s n => ?_⟩
    rw [List.foldl_cons, q2, p2, has_cons]
    constructor
    · rintro ((h | h) | h)
      · exact .inl h
      · exact .inr (.inl h)
      · exact .inr (.inr h)
    · rintro (h | h | h)
      · exact .inl (.inl h)
      · exact .inl (.inr h)
      · exact .inr h

/-- Merging is laying one span after another. -/
theorem merge_eq {a b : List Sp} (ha : Norm a) (hb : Norm b) : mergeL a b = b.foldl putS a := by
  obtain ⟨p1, p2⟩ := mergeL_norm ha hb
  obtain ⟨q1, q2⟩ := foldPut_norm b a ha hb.1
  exact norm_ext p1 q1 (fun s n => by rw [p2, q2])

/-! ### As the code lays it: with a mark whether the span is laid -/
def putG : Bool → Sp → List Sp → List Sp
  | laid, x, [] => if laid then [] else [x]
  | laid, x, y :: l => if touch y x then putG laid (growS y x) l else if laid = false ∧ behind y x then x :: y :: putG true x l else y :: putG laid x l
theorem putG_true : ∀ (l : List Sp) (x : Sp), (∀ y ∈ l, ¬ touch y x) → putG true x l = l
  | [], x, _ => rfl
  | y :: l, x, h => by
    rw [putG, if_neg (h y (List.mem_cons_self ..)), if_neg (by simp), putG_true l x (fun z hz => h z (List.mem_cons_of_mem _ hz))]
theorem putG_false : ∀ (l : List Sp) (x : Sp), Norm l → okSp x → putG false x l = putS l x
  | [], x, _, _ => rfl
  | y :: l, x, hl, hx => by
    rw [putG, putS]
    split
    · rename_i ht
      exact putG_false l _ hl.tail (grow_ok hx hl.head ht)
    · rename_i ht
      by_cases hb : behind y x
      · rw [if_pos ⟨rfl, hb⟩, if_pos hb, putG_true l x (fun z hz => ?_)]
        have h1 := hl.gaps z hz
        have h2 := hl.head
        unfold gap touch behind okSp at *; omega
      · rw [if_neg (fun h => hb h.2), if_neg hb, putG_false l x hl.tail hx]
end Go.Proofs.Ytlhcohpcjleekaa
