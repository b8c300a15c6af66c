/-
  Layer 6 in plain Lean: what is written one behind the other, and reading it back. No program is looked at here.
-/
import Derived.Test.YtlhcohpcjleekaaNumLaws
import Derived.Test.YtlhcohpcjleekaaSpanRight
namespace Go.Proofs.Ytlhcohpcjleekaa
open Go.RowKit
set_option linter.unusedVariables false

/-- The number at a place, and the place behind it. -/
def pNum (L : List UInt8) (a : Nat) : Option (Nat × Nat) := match rdNum (L.drop a) with | .ok (n, k) => some (n, a + k) | .error _ => none
theorem pNum_ok {L : List UInt8} {a n k : Nat} (h : rdNum (L.drop a) = .ok (n, k)) : pNum L a = some (n, a + k) := by unfold pNum; rw [h]
theorem pNum_no {L : List UInt8} {a : Nat} {x : Int} (h : rdNum (L.drop a) = .error x) : pNum L a = none := by unfold pNum; rw [h]
theorem pNum_some {L : List UInt8} {a n a1 : Nat} (h : pNum L a = some (n, a1)) : ∃ k, rdNum (L.drop a) = .ok (n, k) ∧ a1 = a + k := by
  unfold pNum at h
  split at h
  · rename_i m k e
    simp only [Option.some.injEq, Prod.mk.injEq] at h
    obtain ⟨rfl, rfl⟩ := h
    exact ⟨k, e, rfl⟩
  · cases h
theorem pNum_none {L : List UInt8} {a : Nat} (h : pNum L a = none) : ∃ x, rdNum (L.drop a) = .error x := by
  unfold pNum at h
  split at h
  · cases h
  · exact ⟨_, by assumption⟩

/-- How a thing is written, and read. -/
structure Form (α : Type) where
  enc : α → List UInt8
  p : List UInt8 → Nat → Option (α × Nat)
  good : α → Prop
  le : ∀ L a x a1, p L a = some (x, a1) → a < a1 ∧ a1 ≤ L.length
  fwd : ∀ L a x a1, p L a = some (x, a1) → good x → L.drop a = enc x ++ L.drop a1
  bwd : ∀ L a x r, good x → L.drop a = enc x ++ r → p L a = some (x, a + (enc x).length)

theorem snoc_ind {α : Type} {P : List α → Prop} (h0 : P []) (h1 : ∀ l x, P l → P (l ++ [x])) (l : List α) : P l := by
  have h : ∀ m : List α, P m.reverse := by
    intro m
    induction m with
    | nil => exact h0
    | cons x m ih => rw [List.reverse_cons]; exact h1 _ _ ih
  have := h l.reverse
  rwa [List.reverse_reverse] at this
theorem drop_next {L l r : List UInt8} {a : Nat} (h : L.drop a = l ++ r) : L.drop (a + l.length) = r := by
  rw [← List.drop_drop, h, List.drop_left]

theorem pNum_le {L : List UInt8} {a n a1 : Nat} (h : pNum L a = some (n, a1)) : a < a1 ∧ a1 ≤ L.length ∧ a1 ≤ a + 9 ∧ n < 9223372036854775808 := by
  obtain ⟨k, hr, rfl⟩ := pNum_some h
  obtain ⟨h1, h2, h3, h4, _⟩ := rdNum_ok hr
  rw [List.length_drop] at h3
  exact ⟨by omega, by omega, by omega, h4⟩
theorem pNum_fwd {L : List UInt8} {a n a1 : Nat} (h : pNum L a = some (n, a1)) : L.drop a = putN 8 n ++ L.drop a1 := by
  obtain ⟨k, hr, rfl⟩ := pNum_some h
  obtain ⟨h1, h2, h3, h4, h5⟩ := rdNum_ok hr
  rw [← h5, ← List.drop_drop]
  exact (List.take_append_drop k (L.drop a)).symm
theorem pNum_bwd {L r : List UInt8} {a n : Nat} (hn : n < 9223372036854775808) (h : L.drop a = putN 8 n ++ r) : pNum L a = some (n, a + (putN 8 n).length) := pNum_ok (by rw [h]; exact rdNum_putNum n hn r)
def numForm : Form Nat where
  enc := putN 8
  p := pNum
  good n := n < 9223372036854775808
  le L a x a1 h := ⟨(pNum_le h).1, (pNum_le h).2.1⟩
  fwd L a x a1 h _ := pNum_fwd h
  bwd L a x r h e := pNum_bwd h e

section
variable {α : Type}
/-- k things, one behind the other. -/
def pRep (p : List UInt8 → Nat → Option (α × Nat)) (L : List UInt8) : Nat → Nat → Option (List α × Nat)
  | 0, a => some ([], a)
  | k + 1, a => match pRep p L k a with
    | some (xs, a1) => match p L a1 with
      | some (x, a2) => some (xs ++ [x], a2)
      | none => none
    | none => none
variable {p : List UInt8 → Nat → Option (α × Nat)} {L : List UInt8} {k a a1 a2 n : Nat} {xs : List α} {x : α}
theorem pRep_step (h : pRep p L k a = some (xs, a1)) (hp : p L a1 = some (x, a2)) : pRep p L (k + 1) a = some (xs ++ [x], a2) := by simp only [pRep, h, hp]
theorem pRep_none (h : pRep p L k a = none) : ∀ n, k ≤ n → pRep p L n a = none := by
  intro n hn
  induction n with
  | zero => obtain rfl : k = 0 := by omega
            exact h
  | succ n ih =>
    rcases Nat.lt_or_ge n k with h1 | h1
    · obtain rfl : k = n + 1 := by omega
      exact h
    · simp only [pRep, ih h1]
theorem pRep_stop (h : pRep p L k a = some (xs, a1)) (hp : p L a1 = none) (hn : k < n) : pRep p L n a = none :=
  pRep_none (k := k + 1) (by simp only [pRep, h, hp]) n hn
theorem pRep_len : ∀ (k : Nat) {xs : List α} {a1 : Nat}, pRep p L k a = some (xs, a1) → xs.length = k
  | 0, xs, a1, h => by simp only [pRep, Option.some.injEq, Prod.mk.injEq] at h; rw [← h.1]; rfl
  | k + 1, xs, a1, h => by
    simp only [pRep] at h
    split at h
    · rename_i ys b e
      split at h
      · simp only [Option.some.injEq, Prod.mk.injEq] at h
        rw [← h.1, List.length_append, pRep_len k e]; rfl
      · cases h
    · cases h
end
section
variable {α : Type} (F : Form α) {L : List UInt8} {a a1 : Nat}
theorem pRep_le : ∀ (k : Nat) {xs : List α} {a1 : Nat}, a ≤ L.length → pRep F.p L k a = some (xs, a1) → a + k ≤ a1 ∧ a1 ≤ L.length
  | 0, xs, a1, ha, h => by simp only [pRep, Option.some.injEq, Prod.mk.injEq] at h; omega
  | k + 1, xs, a1, ha, h => by
    simp only [pRep] at h
    split at h
    · rename_i ys b e
      split at h
      · rename_i x c e2
        simp only [Option.some.injEq, Prod.mk.injEq] at h
        have h1 := pRep_le k ha e
        have h2 := F.le _ _ _ _ e2
        omega
      · cases h
    · cases h
theorem pRep_fwd : ∀ (k : Nat) {xs : List α} {a1 : Nat}, pRep F.p L k a = some (xs, a1) → (∀ x ∈ xs, F.good x) → L.drop a = xs.flatMap F.enc ++ L.drop a1
  | 0, xs, a1, h, _ => by
    simp only [pRep, Option.some.injEq, Prod.mk.injEq] at h
    obtain ⟨rfl, rfl⟩ := h
    rfl
  | k + 1, xs, a1, h, hg => by
    simp only [pRep] at h
    split at h
    · rename_i ys b e
      split at h
      · rename_i x c e2
        simp only [Option.some.injEq, Prod.mk.injEq] at h
        obtain ⟨rfl, rfl⟩ := h
        rw [pRep_fwd k e (fun y hy => hg y (List.mem_append_left _ hy)), F.fwd _ _ _ _ e2 (hg x (by simp)), List.flatMap_append]
        simp
      · cases h
    · cases h
theorem pRep_bwd : ∀ (xs : List α) (r : List UInt8), (∀ x ∈ xs, F.good x) → L.drop a = xs.flatMap F.enc ++ r → pRep F.p L xs.length a = some (xs, a + (xs.flatMap F.enc).length) := by
  intro xs
  induction xs using snoc_ind with
  | h0 => intro r _ _; rfl
  | h1 ys y ih =>
    intro r hg h
    rw [List.flatMap_append, List.append_assoc] at h
    have h1 := ih _ (fun x hx => hg x (List.mem_append_left _ hx)) h
    have h3 := drop_next h
    rw [List.flatMap_cons, List.flatMap_nil, List.append_nil] at h3
    have h2 := F.bwd L _ y r (hg y (by simp)) h3
    rw [List.length_append, List.length_singleton, pRep_step h1 h2]
    simp only [List.flatMap_append, List.length_append, Option.some.injEq, Prod.mk.injEq, true_and]
    simp only [List.flatMap_cons, List.flatMap_nil, List.append_nil]
    omega
/-- A list: its length, then its things. -/
def pTake (p : List UInt8 → Nat → Option (α × Nat)) (L : List UInt8) (a : Nat) : Option (List α × Nat) :=
  match pNum L a with
  | some (n, a1) => if n ≤ L.length - a1 then pRep p L n a1 else none
  | none => none
theorem pTake_eq {p : List UInt8 → Nat → Option (α × Nat)} {n : Nat} (h : pNum L a = some (n, a1)) (hn : n ≤ L.length - a1) : pTake p L a = pRep p L n a1 := by unfold pTake; simp only [h]; rw [if_pos hn]
theorem pTake_no {p : List UInt8 → Nat → Option (α × Nat)} (h : pNum L a = none) : pTake p L a = none := by unfold pTake; simp only [h]
theorem pTake_many {p : List UInt8 → Nat → Option (α × Nat)} {n : Nat} (h : pNum L a = some (n, a1)) (hn : L.length - a1 < n) : pTake p L a = none := by unfold pTake; simp only [h]; rw [if_neg (by omega)]
theorem pTake_some {p : List UInt8 → Nat → Option (α × Nat)} {xs : List α} {b : Nat} (h : pTake p L a = some (xs, b)) : ∃ n a1, pNum L a = some (n, a1) ∧ n ≤ L.length - a1 ∧ pRep p L n a1 = some (xs, b) ∧ xs.length = n := by
  unfold pTake at h
  split at h
  · rename_i n a1 e
    split at h
    · exact ⟨n, a1, e, by assumption, h, pRep_len _ h⟩
    · cases h
  · cases h
def lenc (F : Form α) (l : List α) : List UInt8 := putN 8 l.length ++ l.flatMap F.enc
theorem flat_pos (hp : ∀ x, F.good x → 1 ≤ (F.enc x).length) : ∀ (l : List α), (∀ x ∈ l, F.good x) → l.length ≤ (l.flatMap F.enc).length
  | [], _ => by simp
  | x :: l, h => by
    have h1 := hp x (h x (List.mem_cons_self ..))
    have h2 := flat_pos hp l (fun y hy => h y (List.mem_cons_of_mem _ hy))
    rw [List.flatMap_cons, List.length_append, List.length_cons]; omega
theorem enc_pos (x : α) (hx : F.good x) : 1 ≤ (F.enc x).length := by
  have h := F.bwd (F.enc x) 0 x [] hx (by simp)
  have := F.le _ _ _ _ h
  omega
def listForm (F : Form α) : Form (List α) where
  enc := lenc F
  p := pTake F.p
  good l := (∀ x ∈ l, F.good x) ∧ l.length < 9223372036854775808
  le L a x a1 h := by
    obtain ⟨n, b, e, hn, hr, _⟩ := pTake_some h
    have h1 := pNum_le e
    have h2 := pRep_le F n (by omega) hr
    omega
  fwd L a x a1 h hg := by
    obtain ⟨n, b, e, hn, hr, hl⟩ := pTake_some h
    rw [pNum_fwd e, pRep_fwd F n hr hg.1, ← List.append_assoc]
    unfold lenc
    rw [hl]
  bwd L a x r hg e := by
    unfold lenc at e ⊢
    rw [List.append_assoc] at e
    have h1 := pNum_bwd hg.2 e
    have h2 := drop_next e
    have h3 := pRep_bwd F x r hg.1 h2
    have h4 := congrArg List.length h2
    rw [List.length_drop, List.length_append] at h4
    have h5 := flat_pos F (enc_pos F) x hg.1
    rw [pTake_eq h1 (by omega), h3, List.length_append]
    simp only [Option.some.injEq, Prod.mk.injEq, true_and]
    omega
end

/-! ### Sets of dots -/
/-- A span; ok tells what of its last two numbers is let through. -/
def gSpan (ok : Nat → Nat → Bool) (L : List UInt8) (a : Nat) : Option (Sp × Nat) :=
  match pNum L a with
  | some (s, a1) => match pNum L a1 with
    | some (f, a2) => match pNum L a2 with
      | some (m, a3) => if ok f m = true then some (((s : Int), (f : Int), wrap64 ((f : Int) + (m : Int))), a3) else none
      | none => none
    | none => none
  | none => none
/-- The bytes of a span. -/
def spB (x : Sp) : List UInt8 := putN 8 x.1.toNat ++ (putN 8 x.2.1.toNat ++ putN 8 (x.2.2 - x.2.1).toNat)
theorem gSpan_some {ok : Nat → Nat → Bool} {L : List UInt8} {a a3 : Nat} {x : Sp} (h : gSpan ok L a = some (x, a3)) :
    ∃ s f m a1 a2, pNum L a = some (s, a1) ∧ pNum L a1 = some (f, a2) ∧ pNum L a2 = some (m, a3) ∧ ok f m = true ∧ x = ((s : Int), (f : Int), wrap64 ((f : Int) + (m : Int))) := by
  unfold gSpan at h
  split at h
  · rename_i s a1 e1
    split at h
    · rename_i f a2 e2
      split at h
      · rename_i m b e3
        split at h
        · simp only [Option.some.injEq, Prod.mk.injEq] at h
          obtain ⟨rfl, rfl⟩ := h
          exact ⟨s, f, m, a1, a2, e1, e2, e3, by assumption, rfl⟩
        · cases h
      · cases h
    · cases h
  · cases h
def spanForm (ok : Nat → Nat → Bool) (hok : ∀ f m, f + m ≤ 4611686018427387904 → ok f m = true) : Form Sp where
  enc := spB
  p := gSpan ok
  good := okSp
  le L a x a1 h := by
    obtain ⟨s, f, m, b1, b2, e1, e2, e3, _⟩ := gSpan_some h
    have h1 := pNum_le e1
    have h2 := pNum_le e2
    have h3 := pNum_le e3
    omega
  fwd L a x a1 h hg := by
    obtain ⟨s, f, m, b1, b2, e1, e2, e3, ho, rfl⟩ := gSpan_some h
    have h2 := (pNum_le e2).2.2.2
    have h3 := (pNum_le e3).2.2.2
    unfold okSp at hg
    simp only at hg
    have hw : wrap64 ((f : Int) + (m : Int)) = (f : Int) + (m : Int) := by
      have := hg.2.2.2.1
      have h0 := hg.2.2.1
      unfold wrap64 at this ⊢
      omega
    rw [pNum_fwd e1, pNum_fwd e2, pNum_fwd e3]
    unfold spB
    simp only [hw]
    rw [show ((f : Int) + (m : Int) - (f : Int)).toNat = m by omega]
    simp [List.append_assoc]
  bwd L a x r hg e := by
    obtain ⟨s, f, t⟩ := x
    unfold okSp at hg
    simp only at hg
    unfold spB at e ⊢
    simp only at e ⊢
    rw [List.append_assoc, List.append_assoc] at e
    have h1 := pNum_bwd (show s.toNat < 9223372036854775808 by omega) e
    have e2 := drop_next e
    have h2 := pNum_bwd (show f.toNat < 9223372036854775808 by omega) e2
    have e3 := drop_next e2
    have h3 := pNum_bwd (show (t - f).toNat < 9223372036854775808 by omega) e3
    unfold gSpan
    simp only [h1, h2, h3]
    rw [if_pos (hok _ _ (by omega))]
    simp only [Option.some.injEq, Prod.mk.injEq, List.length_append]
    refine ⟨⟨by omega, by omega, ?_⟩, by omega⟩
    unfold wrap64
    omega
/-- The bytes of a set. -/
def setB (l : List Sp) : List UInt8 := putN 8 l.length ++ l.flatMap spB
theorem right_good {l : List Sp} (h : rightS l = true) : (∀ x ∈ l, okSp x) ∧ l.length < 9223372036854775808 := by
  have := rightS_true.1 h
  exact ⟨this.1.1, by omega⟩
/-- What is read of bytes as a set. -/
noncomputable def setR (ok : Nat → Nat → Bool) (b : List UInt8) : Option (List Sp) :=
  match pTake (gSpan ok) b 0 with
  | some (l, a) => if a = b.length ∧ rightS l = true then some l else none
  | none => none
theorem setR_iff {ok : Nat → Nat → Bool} (hok : ∀ f m, f + m ≤ 4611686018427387904 → ok f m = true) (b : List UInt8) (l : List Sp) : setR ok b = some l ↔ rightS l = true ∧ b = setB l := by
  have F := listForm (spanForm ok hok)
  constructor
  · intro h
    unfold setR at h
    split at h
    · rename_i l' a e
      split at h
      · rename_i hc
        simp only [Option.some.injEq] at h
        subst h
        refine ⟨hc.2, ?_⟩
        have := (listForm (spanForm ok hok)).fwd b 0 l' a e (right_good hc.2)
        rw [List.drop_zero, hc.1, List.drop_length, List.append_nil] at this
        exact this
      · cases h
    · cases h
  · rintro ⟨hr, rfl⟩
    have := (listForm (spanForm ok hok)).bwd (setB l) 0 l [] (right_good hr) (by rw [List.drop_zero, List.append_nil]; rfl)
    unfold setR
    have e2 : pTake (gSpan ok) (setB l) 0 = some (l, (setB l).length) := by rw [show (setB l).length = 0 + ((listForm (spanForm ok hok)).enc l).length from (Nat.zero_add _).symm]; exact this
    rw [e2]
    show (if (setB l).length = (setB l).length ∧ rightS l = true then some l else none) = some l
    rw [if_pos ⟨rfl, hr⟩]
theorem opt_ext {α : Type} {a b : Option α} (h : ∀ x, a = some x ↔ b = some x) : a = b := by
  cases a with
  | none => cases b with
    | none => rfl
    | some y => exact absurd ((h y).2 rfl) (by simp)
  | some y => exact ((h y).1 rfl).symm
theorem setR_eq {ok ok' : Nat → Nat → Bool} (h : ∀ f m, f + m ≤ 4611686018427387904 → ok f m = true) (h' : ∀ f m, f + m ≤ 4611686018427387904 → ok' f m = true) (b : List UInt8) : setR ok b = setR ok' b :=
  opt_ext fun l => by rw [setR_iff h, setR_iff h']
end Go.Proofs.Ytlhcohpcjleekaa
