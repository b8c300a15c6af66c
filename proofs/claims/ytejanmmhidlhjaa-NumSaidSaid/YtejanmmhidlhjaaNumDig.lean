/-
  Decimal digits in plain Lean: the digits of a number, the number of digits, and that the two are each other's reverse. No program is looked at here.
-/
import Derived.Test.YtejanmmhidlhjaaBase
namespace Go.Proofs.Ytejanmmhidlhjaa
set_option linter.unusedVariables false

def digC (m : Nat) : UInt8 := UInt8.ofNat (48 + m)
def decsF : Nat → Nat → List UInt8
  | 0, _ => []
  | f + 1, m => if m < 10 then [digC m] else decsF f (m / 10) ++ [digC (m % 10)]
/-- The decimal digits of a number, the first one first. -/
def decs (m : Nat) : List UInt8 := decsF (m + 1) m
theorem decsF_fuel : ∀ (f g m : Nat), m < f → m < g → decsF f m = decsF g m := by
  intro f
  induction f with
  | zero => intro g m h; omega
  | succ f ih =>
    intro g m h1 h2
    obtain ⟨g, rfl⟩ : ∃ k, g = k + 1 := ⟨g - 1, by omega⟩
    rw [decsF, decsF]
    by_cases h : m < 10
    · rw [if_pos h, if_pos h]
    · rw [if_neg h, if_neg h, ih g (m / 10) (by omega) (by omega)]
theorem decs_small {m : Nat} (h : m < 10) : decs m = [digC m] := by rw [decs, decsF, if_pos h]
theorem decs_big {m : Nat} (h : 10 ≤ m) : decs m = decs (m / 10) ++ [digC (m % 10)] := by
  rw [decs, decsF, if_neg (by omega), decs, decsF_fuel m (m / 10 + 1) (m / 10) (by omega) (by omega)]
theorem decs_ne (m : Nat) : decs m ≠ [] := by
  by_cases h : m < 10
  · rw [decs_small h]; simp
  · rw [decs_big (by omega)]; simp

/-- Where the writing of digits stands: acc is written, u is left of m. -/
def DigAt (m u : Nat) (acc : List UInt8) : Prop := decs m = (if u = 0 ∧ acc ≠ [] then [] else decs u) ++ acc ∧ u * 10 ^ acc.length ≤ m
theorem DigAt.start (m : Nat) : DigAt m m [] := ⟨by simp, by simp⟩
theorem DigAt.step {m u : Nat} {acc : List UInt8} (h : DigAt m u acc) (hc : acc = [] ∨ 0 < u) : DigAt m (u / 10) (digC (u % 10) :: acc) := by
  obtain ⟨h1, h2⟩ := h
  have hn : ¬ (u = 0 ∧ acc ≠ []) := by
    rintro ⟨h0, hne⟩
    rcases hc with h | h
    · exact hne h
    · omega
  rw [if_neg hn] at h1
  refine ⟨?_, ?_⟩
  · rw [h1]
    by_cases hu : u < 10
    · rw [if_pos ⟨by omega, by simp⟩, decs_small hu, show u % 10 = u by omega]; rfl
    · rw [if_neg (fun h => by omega), decs_big (by omega)]; simp
  · rw [List.length_cons, Nat.pow_succ]
    refine Nat.le_trans ?_ h2
    rw [Nat.mul_comm (10 ^ acc.length) 10, ← Nat.mul_assoc]
    exact Nat.mul_le_mul_right _ (by omega)
theorem DigAt.stop {m u : Nat} {acc : List UInt8} (h : DigAt m u acc) (hu : u = 0) (ha : acc ≠ []) : acc = decs m := by
  rw [h.1, if_pos ⟨hu, ha⟩]; rfl
theorem pow_lt_len {k : Nat} (h : 10 ^ k ≤ 9223372036854775808) : k ≤ 18 := by
  rcases Nat.lt_or_ge k 19 with h1 | h1
  · omega
  · have := Nat.pow_le_pow_right (show 0 < 10 by omega) h1
    omega
theorem DigAt.short {m u : Nat} {acc : List UInt8} (h : DigAt m u acc) (hm : m ≤ 9223372036854775808) (hc : acc = [] ∨ 0 < u) : acc.length ≤ 18 := by
  rcases hc with rfl | hu
  · simp
  · refine pow_lt_len (Nat.le_trans ?_ (Nat.le_trans h.2 hm))
    exact Nat.le_mul_of_pos_left _ hu

/-- A number's text: a sign ahead of the digits where it is below 0. -/
def digits (n : Int) : List UInt8 := (if n < 0 then [45] else []) ++ decs n.natAbs

/-! ### Reading -/
def isDig (c : UInt8) : Bool := decide (48 ≤ c.toNat) && decide (c.toNat ≤ 57)
theorem isDig_true {c : UInt8} : isDig c = true ↔ 48 ≤ c.toNat ∧ c.toNat ≤ 57 := by simp [isDig]
def stepV (n : Nat) (c : UInt8) : Nat := 10 * n + (c.toNat - 48)
def valL (l : List UInt8) : Nat := l.foldl stepV 0
theorem valL_snoc (l : List UInt8) (c : UInt8) : valL (l ++ [c]) = 10 * valL l + (c.toNat - 48) := by simp [valL, stepV]
theorem foldl_ge (l : List UInt8) : ∀ n, n ≤ l.foldl stepV n := by
  induction l with
  | nil => intro n; simp
  | cons c l ih => intro n; rw [List.foldl_cons]; exact Nat.le_trans (by unfold stepV; omega) (ih _)
theorem valL_take_le (l : List UInt8) (k : Nat) : valL (l.take k) ≤ valL l := by
  conv => rhs; rw [← List.take_append_drop k l, valL, List.foldl_append]
  exact foldl_ge _ _
/-- What may be read as a number below 2^63. -/
def okR (l : List UInt8) : Prop := l ≠ [] ∧ ¬ (1 < l.length ∧ l[0]? = some 48) ∧ (∀ c ∈ l, isDig c = true) ∧ valL l < 9223372036854775808
instance (l : List UInt8) : Decidable (okR l) := by unfold okR; infer_instance
def readN (l : List UInt8) : Int := if okR l then valL l else 0
def readE (l : List UInt8) : Int := if okR l then 0 else 2
theorem readN_no {l : List UInt8} (h : ¬ okR l) : readN l = 0 := if_neg h
theorem readE_no {l : List UInt8} (h : ¬ okR l) : readE l = 2 := if_neg h
theorem readN_yes {l : List UInt8} (h : okR l) : readN l = valL l := if_pos h
theorem readE_yes {l : List UInt8} (h : okR l) : readE l = 0 := if_pos h

/-- The first k letters are digits. -/
def DigTo (l : List UInt8) (k : Nat) : Prop := ∀ c ∈ l.take k, isDig c = true
theorem DigTo.start (l : List UInt8) : DigTo l 0 := by intro c hc; simp at hc
theorem take_snoc' {l : List UInt8} {k : Nat} {c : UInt8} (hx : l[k]? = some c) : l.take (k + 1) = l.take k ++ [c] := by rw [List.take_add_one, hx]; rfl
theorem DigTo.step {l : List UInt8} {k : Nat} {c : UInt8} (h : DigTo l k) (hx : l[k]? = some c) (hd : isDig c = true) : DigTo l (k + 1) := by
  intro d hm
  rw [take_snoc' hx, List.mem_append] at hm
  rcases hm with hm | hm
  · exact h d hm
  · simp at hm; subst hm; exact hd
theorem valL_step {l : List UInt8} {k : Nat} {c : UInt8} (hx : l[k]? = some c) : valL (l.take (k + 1)) = 10 * valL (l.take k) + (c.toNat - 48) := by rw [take_snoc' hx, valL_snoc]
theorem DigTo.lt {l : List UInt8} : ∀ {k : Nat}, DigTo l k → k ≤ l.length → valL (l.take k) < 10 ^ k
  | 0, _, _ => by simp [valL]
  | k + 1, h, hk => by
    have hx : l[k]? = some l[k] := List.getElem?_eq_getElem (by omega)
    have h1 : valL (l.take k) < 10 ^ k := DigTo.lt (k := k) (fun c hc => h c (by rw [take_snoc' hx]; exact List.mem_append.2 (.inl hc))) (by omega)
    have h2 := isDig_true.1 (h l[k] (by rw [take_snoc' hx]; exact List.mem_append.2 (.inr (List.mem_singleton.2 rfl))))
    rw [valL_step hx, Nat.pow_succ]
    omega
theorem DigTo.all {l : List UInt8} {n : Nat} (h : DigTo l n) (hn : l.length = n) : ∀ c ∈ l, isDig c = true := by
  unfold DigTo at h
  rwa [List.take_of_length_le (by omega)] at h
theorem DigTo.no {l : List UInt8} {k : Nat} {c : UInt8} (hx : l[k]? = some c) (hd : ¬ (48 ≤ c.toNat ∧ c.toNat ≤ 57)) : ¬ okR l := fun h => hd (isDig_true.1 (h.2.2.1 c (List.mem_of_getElem? hx)))

/-- A first digit that is not 0 makes a number of that many digits. -/
theorem foldl_pow (l : List UInt8) : ∀ n, n * 10 ^ l.length ≤ l.foldl stepV n := by
  induction l with
  | nil => intro n; simp
  | cons c l ih =>
    intro n
    rw [List.foldl_cons, List.length_cons, Nat.pow_succ]
    refine Nat.le_trans ?_ (ih (stepV n c))
    rw [Nat.mul_comm (10 ^ l.length) 10, ← Nat.mul_assoc]
    exact Nat.mul_le_mul_right _ (by unfold stepV; omega)
theorem long_no {l : List UInt8} (h : 19 < l.length) : ¬ okR l := by
  rintro ⟨h0, h1, h2, h3⟩
  match l, h0 with
  | c :: l, _ =>
    have hc := isDig_true.1 (h2 c (List.mem_cons_self ..))
    have hne : c.toNat ≠ 48 := fun e => h1 ⟨by omega, by
      rw [List.getElem?_cons_zero]; congr 1; exact UInt8.toNat_inj.1 e⟩
    have h4 := foldl_pow l (stepV 0 c)
    have h5 : 10 ^ 19 ≤ 10 ^ l.length := Nat.pow_le_pow_right (by omega) (by simp at h; omega)
    have h6 : 1 * 10 ^ l.length ≤ stepV 0 c * 10 ^ l.length := Nat.mul_le_mul_right _ (by unfold stepV; omega)
    have h7 : valL (c :: l) = l.foldl stepV (stepV 0 c) := rfl
    omega

/-! ### Each other's reverse -/
theorem digC_toNat {m : Nat} (h : m < 10) : (digC m).toNat = 48 + m := by unfold digC; rw [UInt8.toNat_ofNat']; omega
theorem digC_dig {m : Nat} (h : m < 10) : isDig (digC m) = true := by rw [isDig_true, digC_toNat h]; omega
theorem decs_facts (m : Nat) : (∀ c ∈ decs m, isDig c = true) ∧ valL (decs m) = m ∧ (m ≠ 0 → (decs m)[0]? ≠ some 48) ∧ (m < 10 → (decs m).length = 1) := by
  induction m using Nat.strongRecOn with
  | ind m ih =>
    by_cases h : m < 10
    · rw [decs_small h]
      refine ⟨fun c hc => ?_, ?_, fun h0 he => ?_, fun _ => rfl⟩
      · rw [List.mem_singleton] at hc; subst hc; exact digC_dig h
      · simp [valL, stepV, digC_toNat h]
      · rw [List.getElem?_cons_zero] at he
        injection he with he
        have := digC_toNat h
        rw [he] at this
        simp at this
        omega
    · obtain ⟨a, b, c, _⟩ := ih (m / 10) (by omega)
      rw [decs_big (by omega)]
      refine ⟨fun d hd => ?_, ?_, fun _ => ?_, fun h' => absurd h' h⟩
      · rcases List.mem_append.1 hd with hd | hd
        · exact a d hd
        · rw [List.mem_singleton] at hd; subst hd; exact digC_dig (by omega)
      · rw [valL_snoc, b, digC_toNat (by omega)]; omega
      · rw [List.getElem?_append_left (List.length_pos_iff.2 (decs_ne _))]
        exact c (by omega)
theorem decs_okR {m : Nat} (h : m < 9223372036854775808) : okR (decs m) := by
  obtain ⟨a, b, c, d⟩ := decs_facts m
  refine ⟨decs_ne m, ?_, a, by rw [b]; exact h⟩
  rintro ⟨h1, h2⟩
  by_cases h0 : m = 0
  · have := d (by omega); omega
  · exact c h0 h2
theorem digits_ok {n : Int} (h0 : 0 ≤ n) (h1 : n < 9223372036854775808) : okR (digits n) ∧ (valL (digits n) : Int) = n := by
  have e : digits n = decs n.natAbs := by unfold digits; rw [if_neg (by omega)]; rfl
  rw [e]
  exact ⟨decs_okR (by omega), by rw [(decs_facts _).2.1]; omega⟩
theorem digits_no {n : Int} (h0 : n < 0) : ¬ okR (digits n) := by
  have e : digits n = 45 :: decs n.natAbs := by unfold digits; rw [if_pos h0]; rfl
  rw [e]
  intro h
  have := isDig_true.1 (h.2.2.1 45 (List.mem_cons_self ..))
  simp at this

theorem decs_val : ∀ (l : List UInt8), l ≠ [] → (∀ c ∈ l, isDig c = true) → (1 < l.length → l[0]? ≠ some 48) → decs (valL l) = l := by
  intro l
  generalize hn : l.length = n
  induction n generalizing l with
  | zero => intro h; exact absurd (List.eq_nil_of_length_eq_zero hn) h
  | succ n ih =>
    intro hne hd hz
    obtain ⟨i, c, rfl⟩ : ∃ i c, l = i ++ [c] := ⟨l.dropLast, l.getLast hne, (List.dropLast_concat_getLast hne).symm⟩
    have hc := isDig_true.1 (hd c (by simp))
    have ec : digC (c.toNat - 48) = c := by
      unfold digC; rw [show 48 + (c.toNat - 48) = c.toNat by omega]; exact UInt8.ofNat_toNat
    rw [valL_snoc]
    rcases List.eq_nil_or_concat i with rfl | ⟨i', c', rfl⟩
    · rw [show 10 * valL [] + (c.toNat - 48) = c.toNat - 48 by simp [valL], decs_small (by omega), ec]; rfl
    · rw [List.concat_eq_append] at *
      have hl : (i' ++ [c']).length = n := by simp at hn ⊢; omega
      have h0 : ∀ t : List UInt8, (i' ++ [c'] ++ t)[0]? = (i' ++ [c'])[0]? := fun t => by rw [List.getElem?_append_left (by simp)]
      have hz' : (i' ++ [c'])[0]? ≠ some 48 := by rw [← h0 [c]]; exact hz (by simp at hl; omega)
      have e := ih (i' ++ [c']) hl (by simp) (fun d hm => hd d (by simp at hm ⊢; rcases hm with h | h <;> simp [h])) (fun _ => hz')
      have hp : 1 ≤ valL (i' ++ [c']) := by
        rcases Nat.eq_zero_or_pos (valL (i' ++ [c'])) with h1 | h1
        · exfalso
          rw [h1, decs_small (by omega)] at e
          rw [← e] at hz'
          exact hz' rfl
        · exact h1
      rw [decs_big (by omega), show (10 * valL (i' ++ [c']) + (c.toNat - 48)) / 10 = valL (i' ++ [c']) by omega, e, show (10 * valL (i' ++ [c']) + (c.toNat - 48)) % 10 = c.toNat - 48 by omega, ec]
theorem digits_read {l : List UInt8} (h : okR l) : digits (valL l) = l := by
  unfold digits
  rw [if_neg (by omega), Int.natAbs_natCast, List.nil_append]
  exact decs_val l h.1 h.2.2.1 (fun h1 h2 => h.2.1 ⟨h1, h2⟩)
end Go.Proofs.Ytejanmmhidlhjaa
