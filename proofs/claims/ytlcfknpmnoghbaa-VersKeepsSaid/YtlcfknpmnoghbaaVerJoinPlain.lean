/-
  Two sets of versions together: the program's way (side by side) and the document's (laid in one by one) come to the same. No program is looked at here.
-/
import Derived.Test.YtlcfknpmnoghbaaVerSames
namespace Go.Proofs.Ytlcfknpmnoghbaa
open Go.RowKit
set_option linter.unusedVariables false

def keepL (p : Vr → Bool) (x : Vr) (l : List Vr) : List Vr := (if p x then [x] else []) ++ l
theorem keepL_yes {p : Vr → Bool} {x : Vr} (h : p x = true) (l : List Vr) : keepL p x l = x :: l := by unfold keepL; rw [if_pos h]; rfl
theorem keepL_no {p : Vr → Bool} {x : Vr} (h : p x = false) (l : List Vr) : keepL p x l = l := by unfold keepL; rw [if_neg (by rw [h]; decide)]; rfl
theorem mem_keepL {p : Vr → Bool} {x v : Vr} {l : List Vr} : v ∈ keepL p x l ↔ (v = x ∧ p x = true) ∨ v ∈ l := by
  cases h : p x
  · rw [keepL_no h]; simp
  · rw [keepL_yes h]; simp
def mrgL (p : Vr → Bool) : List Vr → List Vr → List Vr
  | [], [] => []
  | [], y :: s => keepL p y (mrgL p [] s)
  | x :: r, [] => keepL p x (mrgL p r [])
  | x :: r, y :: s => if dltB x.s x.n y.s y.n then keepL p x (mrgL p r (y :: s)) else if x.s = y.s ∧ x.n = y.n then mrgL p r (y :: s) else keepL p y (mrgL p (x :: r) s)
termination_by a b => a.length + b.length
def mrgT : List Vr → List Vr → Bool
  | [], _ => false
  | _ :: _, [] => false
  | x :: r, y :: s => if dltB x.s x.n y.s y.n then mrgT r (y :: s) else if x.s = y.s ∧ x.n = y.n then (!vEq x y || mrgT r (y :: s)) else mrgT (x :: r) s
termination_by a b => a.length + b.length
theorem mrgT_nil (a : List Vr) : mrgT a [] = false := by cases a <;> simp [mrgT]
theorem dot_eq_not_lt {x y : Vr} (h : x.s = y.s ∧ x.n = y.n) : dltB x.s x.n y.s y.n = false := dltB_no (by omega)
theorem dlt_or {x y : Vr} (h1 : dltB x.s x.n y.s y.n = false) (h2 : ¬ (x.s = y.s ∧ x.n = y.n)) : dlt y x := by
  rw [dlt_iff]
  have := of_decide_eq_false h1
  omega
/-- Two of one dot are one. -/
def NoTwin (a b : List Vr) : Prop := ∀ x ∈ a, ∀ y ∈ b, x.s = y.s ∧ x.n = y.n → x = y
theorem mem_mrgL (p : Vr → Bool) (v : Vr) : ∀ (a b : List Vr), NoTwin a b → (v ∈ mrgL p a b ↔ p v = true ∧ (v ∈ a ∨ v ∈ b))
  | [], [], _ => by simp [mrgL]
  | [], y :: s, h => by
    rw [mrgL, mem_keepL, mem_mrgL p v [] s (fun x hx => by cases hx)]
    simp only [List.not_mem_nil, false_or, List.mem_cons]
    constructor
    · rintro (⟨rfl, h1⟩ | ⟨h1, h2⟩)
      · exact ⟨h1, .inl rfl⟩
      · exact ⟨h1, .inr h2⟩
    · rintro ⟨h1, rfl | h2⟩
      · exact .inl ⟨rfl, h1⟩
      · exact .inr ⟨h1, h2⟩
  | x :: r, [], h => by
    rw [mrgL, mem_keepL, mem_mrgL p v r [] (fun _ _ y hy => by cases hy)]
    simp only [List.not_mem_nil, or_false, List.mem_cons]
    constructor
    · rintro (⟨rfl, h1⟩ | ⟨h1, h2⟩)
      · exact ⟨h1, .inl rfl⟩
      · exact ⟨h1, .inr h2⟩
    · rintro ⟨h1, rfl | h2⟩
      · exact .inl ⟨rfl, h1⟩
      · exact .inr ⟨h1, h2⟩
  | x :: r, y :: s, h => by
    have h1 : NoTwin r (y :: s) := fun u hu z hz => h u (List.mem_cons_of_mem _ hu) z hz
    have h2 : NoTwin (x :: r) s := fun u hu z hz => h u hu z (List.mem_cons_of_mem _ hz)
    rw [mrgL]
    split
    · rw [mem_keepL, mem_mrgL p v r (y :: s) h1]
      simp only [List.mem_cons]
      constructor
      · rintro (⟨rfl, k1⟩ | ⟨k1, k2⟩)
        · exact ⟨k1, .inl (.inl rfl)⟩
        · exact ⟨k1, k2.imp .inr id⟩
      · rintro ⟨k1, (rfl | k2) | k3⟩
        · exact .inl ⟨rfl, k1⟩
        · exact .inr ⟨k1, .inl k2⟩
        · exact .inr ⟨k1, .inr k3⟩
    · split
      · rename_i hd
        have e := h x (List.mem_cons_self ..) y (List.mem_cons_self ..) hd
        rw [mem_mrgL p v r (y :: s) h1]
        simp only [List.mem_cons]
        constructor
        · rintro ⟨k1, k2⟩
          exact ⟨k1, k2.imp .inr id⟩
        · rintro ⟨k1, (rfl | k2) | k3⟩
          · exact ⟨k1, .inr (.inl e)⟩
          · exact ⟨k1, .inl k2⟩
          · exact ⟨k1, .inr k3⟩
      · rw [mem_keepL, mem_mrgL p v (x :: r) s h2]
        simp only [List.mem_cons]
        constructor
        · rintro (⟨rfl, k1⟩ | ⟨k1, k2⟩)
          · exact ⟨k1, .inr (.inl rfl)⟩
          · exact ⟨k1, k2.imp id .inr⟩
        · rintro ⟨k1, k2 | rfl | k3⟩
          · exact .inr ⟨k1, .inl k2⟩
          · exact .inl ⟨rfl, k1⟩
          · exact .inr ⟨k1, .inr k3⟩
termination_by a b => a.length + b.length
theorem mrgL_sub (p : Vr → Bool) (v : Vr) : ∀ (a b : List Vr), v ∈ mrgL p a b → v ∈ a ∨ v ∈ b
  | [], [], h => by simp [mrgL] at h
  | [], y :: s, h => by
    rw [mrgL, mem_keepL] at h
    rcases h with ⟨rfl, _⟩ | h
    · exact .inr (List.mem_cons_self ..)
    · exact (mrgL_sub p v [] s h).imp id (List.mem_cons_of_mem _)
  | x :: r, [], h => by
    rw [mrgL, mem_keepL] at h
    rcases h with ⟨rfl, _⟩ | h
    · exact .inl (List.mem_cons_self ..)
    · exact (mrgL_sub p v r [] h).imp (List.mem_cons_of_mem _) id
  | x :: r, y :: s, h => by
    rw [mrgL] at h
    split at h
    · rw [mem_keepL] at h
      rcases h with ⟨rfl, _⟩ | h
      · exact .inl (List.mem_cons_self ..)
      · exact (mrgL_sub p v r (y :: s) h).imp (List.mem_cons_of_mem _) id
    · split at h
      · exact (mrgL_sub p v r (y :: s) h).imp (List.mem_cons_of_mem _) id
      · rw [mem_keepL] at h
        rcases h with ⟨rfl, _⟩ | h
        · exact .inr (List.mem_cons_self ..)
        · exact (mrgL_sub p v (x :: r) s h).imp id (List.mem_cons_of_mem _)
termination_by a b => a.length + b.length
theorem keepL_sorted {p : Vr → Bool} {x : Vr} {l : List Vr} (h : l.Pairwise dlt) (hx : ∀ v ∈ l, dlt x v) : (keepL p x l).Pairwise dlt := by
  cases hp : p x
  · rw [keepL_no hp]; exact h
  · rw [keepL_yes hp]; exact List.pairwise_cons.2 ⟨hx, h⟩
theorem mrgL_sorted (p : Vr → Bool) : ∀ (a b : List Vr), a.Pairwise dlt → b.Pairwise dlt → (mrgL p a b).Pairwise dlt
  | [], [], _, _ => by simp [mrgL]
  | [], y :: s, ha, hb => by
    rw [mrgL]
    refine keepL_sorted (mrgL_sorted p [] s ha (List.pairwise_cons.1 hb).2) fun v hv => ?_
    rcases mrgL_sub p v _ _ hv with h | h
    · cases h
    · exact (List.pairwise_cons.1 hb).1 v h
  | x :: r, [], ha, hb => by
    rw [mrgL]
    refine keepL_sorted (mrgL_sorted p r [] (List.pairwise_cons.1 ha).2 hb) fun v hv => ?_
    rcases mrgL_sub p v _ _ hv with h | h
    · exact (List.pairwise_cons.1 ha).1 v h
    · cases h
  | x :: r, y :: s, ha, hb => by
    have a1 := List.pairwise_cons.1 ha
    have b1 := List.pairwise_cons.1 hb
    rw [mrgL]
    split
    · rename_i hd
      refine keepL_sorted (mrgL_sorted p r (y :: s) a1.2 hb) fun v hv => ?_
      rcases mrgL_sub p v _ _ hv with h | h
      · exact a1.1 v h
      · rcases List.mem_cons.1 h with rfl | h
        · exact hd
        · exact dlt_trans (y := y) hd (b1.1 v h)
    · rename_i hd
      split
      · exact mrgL_sorted p r (y :: s) a1.2 hb
      · rename_i hne
        have hyx := dlt_or (by simpa using hd) hne
        refine keepL_sorted (mrgL_sorted p (x :: r) s ha b1.2) fun v hv => ?_
        rcases mrgL_sub p v _ _ hv with h | h
        · rcases List.mem_cons.1 h with rfl | h
          · exact hyx
          · exact dlt_trans hyx (a1.1 v h)
        · exact b1.1 v h
termination_by a b => a.length + b.length
theorem mrgT_iff : ∀ (a b : List Vr), a.Pairwise dlt → b.Pairwise dlt → (mrgT a b = true ↔ ∃ x ∈ a, ∃ y ∈ b, (x.s = y.s ∧ x.n = y.n) ∧ x ≠ y)
  | [], b, _, _ => by simp [mrgT]
  | x :: r, [], _, _ => by simp [mrgT]
  | x :: r, y :: s, ha, hb => by
    have a1 := List.pairwise_cons.1 ha
    have b1 := List.pairwise_cons.1 hb
    have lt_ne : ∀ {u v : Vr}, dlt u v → ¬ (u.s = v.s ∧ u.n = v.n) := fun h1 h2 => by rw [dlt_iff] at h1; omega
    rw [mrgT]
    split
    · rename_i hd
      rw [mrgT_iff r (y :: s) a1.2 hb]
      constructor
      · rintro ⟨u, hu, z, hz, k⟩
        exact ⟨u, List.mem_cons_of_mem _ hu, z, hz, k⟩
      · rintro ⟨u, hu, z, hz, k⟩
        rcases List.mem_cons.1 hu with rfl | hu
        · exfalso
          rcases List.mem_cons.1 hz with rfl | hz
          · exact lt_ne hd k.1
          · exact lt_ne (dlt_trans (y := y) hd (b1.1 z hz)) k.1
        · exact ⟨u, hu, z, hz, k⟩
    · rename_i hd
      split
      · rename_i he
        rw [Bool.or_eq_true, mrgT_iff r (y :: s) a1.2 hb]
        constructor
        · rintro (h | ⟨u, hu, z, hz, k⟩)
          · refine ⟨x, List.mem_cons_self .., y, List.mem_cons_self .., he, ?_⟩
            have : vEq x y = false := by simpa using h
            exact of_decide_eq_false this
          · exact ⟨u, List.mem_cons_of_mem _ hu, z, hz, k⟩
        · rintro ⟨u, hu, z, hz, k⟩
          rcases List.mem_cons.1 hu with rfl | hu
          · rcases List.mem_cons.1 hz with rfl | hz
            · exact .inl (by rw [vEq_no k.2]; rfl)
            · exfalso
              have h1 := b1.1 z hz
              rw [dlt_iff] at h1
              omega
          · exact .inr ⟨u, hu, z, hz, k⟩
      · rename_i hne
        have hyx := dlt_or (by simpa using hd) hne
        rw [mrgT_iff (x :: r) s ha b1.2]
        constructor
        · rintro ⟨u, hu, z, hz, k⟩
          exact ⟨u, hu, z, List.mem_cons_of_mem _ hz, k⟩
        · rintro ⟨u, hu, z, hz, k⟩
          rcases List.mem_cons.1 hz with rfl | hz
          · exfalso
            rcases List.mem_cons.1 hu with rfl | hu
            · exact hne k.1
            · exact lt_ne (dlt_trans hyx (a1.1 u hu)) ⟨k.1.1.symm, k.1.2.symm⟩
          · exact ⟨u, hu, z, hz, k⟩
termination_by a b => a.length + b.length
theorem sorted_ext : ∀ {a b : List Vr}, a.Pairwise dlt → b.Pairwise dlt → (∀ v, v ∈ a ↔ v ∈ b) → a = b
  | [], [], _, _, _ => rfl
  | [], y :: s, _, _, h => by have := (h y).2 (List.mem_cons_self ..); cases this
  | x :: r, [], _, _, h => by have := (h x).1 (List.mem_cons_self ..); cases this
  | x :: r, y :: s, ha, hb, h => by
    have a1 := List.pairwise_cons.1 ha
    have b1 := List.pairwise_cons.1 hb
    have e : x = y := by
      rcases List.mem_cons.1 ((h x).1 (List.mem_cons_self ..)) with e | hx
      · exact e
      · rcases List.mem_cons.1 ((h y).2 (List.mem_cons_self ..)) with e | hy
        · exact e.symm
        · exact absurd (dlt_trans (b1.1 x hx) (a1.1 y hy)) (dlt_irrefl _)
    subst e
    rw [sorted_ext a1.2 b1.2 fun v => ⟨fun hv => ?_, fun hv => ?_⟩]
    · rcases List.mem_cons.1 ((h v).1 (List.mem_cons_of_mem _ hv)) with rfl | h'
      · exact absurd (a1.1 _ hv) (dlt_irrefl _)
      · exact h'
    · rcases List.mem_cons.1 ((h v).2 (List.mem_cons_of_mem _ hv)) with rfl | h'
      · exact absurd (b1.1 _ hv) (dlt_irrefl _)
      · exact h'
theorem mrgL_len (p : Vr → Bool) : ∀ (a b : List Vr), (mrgL p a b).length ≤ a.length + b.length
  | [], [] => by simp [mrgL]
  | [], y :: s => by
    rw [mrgL]
    have := mrgL_len p [] s
    unfold keepL
    split <;> simp <;> simp at this <;> omega
  | x :: r, [] => by
    rw [mrgL]
    have := mrgL_len p r []
    unfold keepL
    split <;> simp <;> simp at this <;> omega
  | x :: r, y :: s => by
    have h1 := mrgL_len p r (y :: s)
    have h2 := mrgL_len p (x :: r) s
    simp only [List.length_cons] at h1 h2
    rw [mrgL]
    split
    · unfold keepL
      split <;> simp <;> omega
    · split
      · simp only [List.length_cons]; omega
      · unfold keepL
        split <;> simp <;> omega
termination_by a b => a.length + b.length

/-! ### The document's way -/
/-- How many stand ahead of a dot. -/
def atV : List Vr → Vr → Nat
  | [], _ => 0
  | x :: r, v => if dltB x.s x.n v.s v.n then atV r v + 1 else 0
def hitV (l : List Vr) (v : Vr) : Bool := match l[atV l v]? with | some y => decide (y.s = v.s ∧ y.n = v.n) | none => false
theorem hitV_some {l : List Vr} {v y : Vr} (h : l[atV l v]? = some y) : hitV l v = decide (y.s = v.s ∧ y.n = v.n) := by unfold hitV; rw [h]
theorem hitV_none {l : List Vr} {v : Vr} (h : l.length ≤ atV l v) : hitV l v = false := by unfold hitV; rw [List.getElem?_eq_none h]
def putV (l : List Vr) (v : Vr) : List Vr := if hitV l v = true then l else l.take (atV l v) ++ [v] ++ l.drop (atV l v)
theorem atV_le : ∀ (l : List Vr) (v : Vr), atV l v ≤ l.length
  | [], _ => Nat.le_refl _
  | x :: r, v => by
    unfold atV
    split
    · simp; exact atV_le r v
    · simp
theorem atV_before : ∀ (l : List Vr) (v : Vr) (k : Nat) (x : Vr), k < atV l v → l[k]? = some x → dltB x.s x.n v.s v.n = true
  | [], v, k, x, hk, hx => by simp at hx
  | y :: r, v, k, x, hk, hx => by
    unfold atV at hk
    split at hk
    · rename_i hd
      cases k with
      | zero => simp at hx; subst hx; exact hd
      | succ k => simp at hx; exact atV_before r v k x (by omega) hx
    · omega
theorem atV_stop : ∀ (l : List Vr) (v : Vr) (x : Vr), l[atV l v]? = some x → dltB x.s x.n v.s v.n = false
  | [], v, x, hx => by simp at hx
  | y :: r, v, x, hx => by
    unfold atV at hx
    split at hx
    · simp at hx; exact atV_stop r v x hx
    · rename_i hd
      simp at hx
      subst hx
      simpa using hd
theorem putV_sorted {l : List Vr} {v : Vr} (h : l.Pairwise dlt) : (putV l v).Pairwise dlt := by
  unfold putV
  split
  · exact h
  · rename_i hn
    have hle := atV_le l v
    have hlt : ∀ x ∈ l.take (atV l v), dlt x v := fun x hx => by
      obtain ⟨j, hj, rfl⟩ := List.getElem_of_mem hx
      rw [List.length_take] at hj
      rw [List.getElem_take]
      exact atV_before l v j _ (by omega) (List.getElem?_eq_getElem _)
    have hgt : ∀ x ∈ l.drop (atV l v), dlt v x := fun x hx => by
      obtain ⟨j, hj, rfl⟩ := List.getElem_of_mem hx
      rw [List.length_drop] at hj
      rw [List.getElem_drop]
      have hz : l[atV l v]? = some (l[atV l v]'(by omega)) := List.getElem?_eq_getElem _
      have hs := atV_stop l v _ hz
      rw [hitV_some hz] at hn
      have hne : ¬ ((l[atV l v]'(by omega)).s = v.s ∧ (l[atV l v]'(by omega)).n = v.n) := by simpa using hn
      have h0 := dlt_or hs hne
      by_cases hj0 : j = 0
      · subst hj0; exact h0
      · exact dlt_trans h0 (List.pairwise_iff_getElem.1 h (atV l v) (atV l v + j) (by omega) (by omega) (by omega))
    refine List.pairwise_append.2 ⟨List.pairwise_append.2 ⟨h.sublist (List.take_sublist _ _), List.pairwise_singleton _ _, fun a ha b hb => ?_⟩, h.sublist (List.drop_sublist _ _), fun a ha b hb => ?_⟩
    · rw [List.mem_singleton.1 hb]; exact hlt a ha
    · rcases List.mem_append.1 ha with ha | ha
      · exact dlt_trans (hlt a ha) (hgt b hb)
      · rw [List.mem_singleton.1 ha]; exact hgt b hb
theorem mem_putV {l : List Vr} {v : Vr} (ht : ∀ x ∈ l, x.s = v.s ∧ x.n = v.n → x = v) (u : Vr) : u ∈ putV l v ↔ u ∈ l ∨ u = v := by
  unfold putV
  split
  · rename_i h
    cases hz : l[atV l v]? with
    | none =>
      unfold hitV at h
      rw [hz] at h
      cases h
    | some y =>
      rw [hitV_some hz] at h
      have hm := List.mem_of_getElem? hz
      have e := ht y hm (of_decide_eq_true h)
      subst e
      constructor
      · exact .inl
      · rintro (h1 | rfl)
        · exact h1
        · exact hm
  · constructor
    · intro h
      rcases List.mem_append.1 h with h | h
      · rcases List.mem_append.1 h with h | h
        · exact .inl (List.mem_of_mem_take h)
        · exact .inr (List.mem_singleton.1 h)
      · exact .inl (List.mem_of_mem_drop h)
    · rintro (h | rfl)
      · rw [← List.take_append_drop (atV l v) l] at h
        rcases List.mem_append.1 h with h | h
        · exact List.mem_append_left _ (List.mem_append_left _ h)
        · exact List.mem_append_right _ h
      · exact List.mem_append_left _ (List.mem_append_right _ (List.mem_singleton.2 rfl))
theorem putV_len (l : List Vr) (v : Vr) : (putV l v).length ≤ l.length + 1 := by
  unfold putV
  split
  · omega
  · have := atV_le l v
    simp
    omega
/-- The document's fold: those of l that p lets through are laid in. -/
def foldV (p : Vr → Bool) (out : List Vr) : List Vr → List Vr
  | [] => out
  | x :: r => foldV p (if p x then putV out x else out) r
theorem foldV_snoc (p : Vr → Bool) : ∀ (l out : List Vr) (x : Vr), foldV p out (l ++ [x]) = if p x then putV (foldV p out l) x else foldV p out l
  | [], out, x => rfl
  | y :: r, out, x => by
    rw [List.cons_append]
    exact foldV_snoc p r _ x
theorem foldV_sorted (p : Vr → Bool) : ∀ (l out : List Vr), out.Pairwise dlt → (foldV p out l).Pairwise dlt
  | [], out, h => h
  | x :: r, out, h => by
    unfold foldV
    split
    · exact foldV_sorted p r _ (putV_sorted h)
    · exact foldV_sorted p r _ h
theorem foldV_len (p : Vr → Bool) : ∀ (l out : List Vr), (foldV p out l).length ≤ out.length + l.length
  | [], out => by simp [foldV]
  | x :: r, out => by
    unfold foldV
    split
    · have h1 := foldV_len p r (putV out x)
      have h2 := putV_len out x
      simp only [List.length_cons]
      omega
    · have h1 := foldV_len p r out
      simp only [List.length_cons]
      omega
theorem mem_foldV (p : Vr → Bool) (u : Vr) : ∀ (l out : List Vr), (∀ x ∈ out, ∀ y ∈ l, x.s = y.s ∧ x.n = y.n → x = y) → (∀ x ∈ l, ∀ y ∈ l, x.s = y.s ∧ x.n = y.n → x = y) → (u ∈ foldV p out l ↔ u ∈ out ∨ (u ∈ l ∧ p u = true))
  | [], out, _, _ => by simp [foldV]
  | x :: r, out, h1, h2 => by
    have hx : ∀ y ∈ out, y.s = x.s ∧ y.n = x.n → y = x := fun y hy => h1 y hy x (List.mem_cons_self ..)
    have h2' : ∀ a ∈ r, ∀ b ∈ r, a.s = b.s ∧ a.n = b.n → a = b := fun a ha b hb => h2 a (List.mem_cons_of_mem _ ha) b (List.mem_cons_of_mem _ hb)
    unfold foldV
    cases hp : p x
    · rw [if_neg (by decide), mem_foldV p u r out (fun a ha b hb => h1 a ha b (List.mem_cons_of_mem _ hb)) h2']
      constructor
      · rintro (h | ⟨h, k⟩)
        · exact .inl h
        · exact .inr ⟨List.mem_cons_of_mem _ h, k⟩
      · rintro (h | ⟨h, k⟩)
        · exact .inl h
        · rcases List.mem_cons.1 h with rfl | h
          · rw [hp] at k; cases k
          · exact .inr ⟨h, k⟩
    · rw [if_pos rfl, mem_foldV p u r (putV out x) (fun a ha b hb e => by
        rcases (mem_putV hx a).1 ha with ha | rfl
        · exact h1 a ha b (List.mem_cons_of_mem _ hb) e
        · exact h2 a (List.mem_cons_self ..) b (List.mem_cons_of_mem _ hb) e) h2', mem_putV hx]
      constructor
      · rintro ((h | rfl) | ⟨h, k⟩)
        · exact .inl h
        · exact .inr ⟨List.mem_cons_self .., hp⟩
        · exact .inr ⟨List.mem_cons_of_mem _ h, k⟩
      · rintro (h | ⟨h, k⟩)
        · exact .inl (.inl h)
        · rcases List.mem_cons.1 h with rfl | h
          · exact .inl (.inr rfl)
          · exact .inr ⟨h, k⟩
theorem sorted_own {l : List Vr} (h : l.Pairwise dlt) : ∀ x ∈ l, ∀ y ∈ l, x.s = y.s ∧ x.n = y.n → x = y := by
  intro x hx y hy e
  obtain ⟨i, hi, rfl⟩ := List.getElem_of_mem hx
  obtain ⟨j, hj, rfl⟩ := List.getElem_of_mem hy
  rcases Nat.lt_trichotomy i j with h1 | h1 | h1
  · have := List.pairwise_iff_getElem.1 h i j hi hj h1
    rw [dlt_iff] at this
    omega
  · subst h1; rfl
  · have := List.pairwise_iff_getElem.1 h j i hj hi h1
    rw [dlt_iff] at this
    omega

/-! ### The two ways are one -/
noncomputable def keepB (a b : List Vr) (v : Vr) : Bool := !behB a v.s v.n && !behB b v.s v.n
noncomputable def joinV (a b : List Vr) : List Vr := mrgL (keepB a b) a b
/-- What merging answers: its error's number, its list. -/
noncomputable def mrgE (a b : List Vr) : Int := if (rightV a && rightV b) = false then 1 else if mrgT a b = true then 50 else if 512 < (joinV a b).length then 3 else 0
noncomputable def mergedL (a b : List Vr) : List Vr := if mrgE a b = 0 then joinV a b else []
noncomputable def refJoin (a b : List Vr) : List Vr := foldV (fun v => !behB a v.s v.n) (foldV (fun v => !behB b v.s v.n) [] a) b
theorem noTwin {a b : List Vr} (ha : RightV a) (hb : RightV b) (h : mrgT a b = false) : NoTwin a b := by
  intro x hx y hy e
  have h1 := mrgT_iff a b ha.1.2 hb.1.2
  rw [h] at h1
  rcases Classical.em (x = y) with h2 | h2
  · exact h2
  · exact absurd (h1.2 ⟨x, hx, y, hy, e, h2⟩) (by decide)
theorem mem_joinV {a b : List Vr} (ha : RightV a) (hb : RightV b) (h : mrgT a b = false) (v : Vr) : v ∈ joinV a b ↔ (v ∈ a ∨ v ∈ b) ∧ behB a v.s v.n = false ∧ behB b v.s v.n = false := by
  unfold joinV
  rw [mem_mrgL _ v a b (noTwin ha hb h)]
  unfold keepB
  simp only [Bool.and_eq_true, Bool.not_eq_true']
  constructor
  · rintro ⟨h1, h2⟩; exact ⟨h2, h1⟩
  · rintro ⟨h1, h2⟩; exact ⟨h2, h1⟩
theorem joinV_sorted {a b : List Vr} (ha : RightV a) (hb : RightV b) : (joinV a b).Pairwise dlt := mrgL_sorted _ _ _ ha.1.2 hb.1.2
theorem joinV_len (a b : List Vr) : (joinV a b).length ≤ a.length + b.length := mrgL_len _ _ _
theorem refJoin_eq {a b : List Vr} (ha : RightV a) (hb : RightV b) (h : mrgT a b = false) : refJoin a b = joinV a b := by
  have hn := noTwin ha hb h
  have m1 : ∀ u, u ∈ foldV (fun v => !behB b v.s v.n) [] a ↔ (u ∈ a ∧ behB b u.s u.n = false) := fun u => by
    rw [mem_foldV _ u a [] (fun x hx => by cases hx) (sorted_own ha.1.2)]
    simp
  refine sorted_ext (foldV_sorted _ _ _ (foldV_sorted _ _ _ List.Pairwise.nil)) (joinV_sorted ha hb) fun u => ?_
  rw [mem_joinV ha hb h]
  unfold refJoin
  rw [mem_foldV _ u b _ (fun x hx y hy => hn x ((m1 x).1 hx).1 y hy) (sorted_own hb.1.2), m1]
  simp only [Bool.not_eq_true']
  constructor
  · rintro (⟨h1, h2⟩ | ⟨h1, h2⟩)
    · exact ⟨.inl h1, (ha.1.1 u h1).2, h2⟩
    · exact ⟨.inr h1, h2, (hb.1.1 u h1).2⟩
  · rintro ⟨h1 | h1, h2, h3⟩
    · exact .inl ⟨h1, h3⟩
    · exact .inr ⟨h1, h2⟩
end Go.Proofs.Ytlcfknpmnoghbaa
