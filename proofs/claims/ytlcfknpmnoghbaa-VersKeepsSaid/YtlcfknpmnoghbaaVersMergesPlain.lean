/-
  Merging is without order and brackets, where pasts are closed. No program is looked at here.
-/
import Derived.Test.YtlcfknpmnoghbaaVersTwinsWalk
import Derived.Test.YtlcfknpmnoghbaaSpanWithin
namespace Go.Proofs.Ytlcfknpmnoghbaa
open Go.RowKit
set_option linter.unusedVariables false

theorem mrgT_symm {a b : List Vr} (ha : a.Pairwise dlt) (hb : b.Pairwise dlt) : mrgT a b = mrgT b a := by
  rw [Bool.eq_iff_iff, mrgT_iff a b ha hb, mrgT_iff b a hb ha]
  constructor
  · rintro ⟨x, hx, y, hy, k1, k2⟩
    exact ⟨y, hy, x, hx, ⟨k1.1.symm, k1.2.symm⟩, fun e => k2 e.symm⟩
  · rintro ⟨x, hx, y, hy, k1, k2⟩
    exact ⟨y, hy, x, hx, ⟨k1.1.symm, k1.2.symm⟩, fun e => k2 e.symm⟩
theorem joinV_symm {a b : List Vr} (ha : RightV a) (hb : RightV b) (ht : mrgT a b = false) : joinV a b = joinV b a := by
  have ht' : mrgT b a = false := by rw [← mrgT_symm ha.1.2 hb.1.2]; exact ht
  refine sorted_ext (joinV_sorted ha hb) (joinV_sorted hb ha) fun v => ?_
  rw [mem_joinV ha hb ht, mem_joinV hb ha ht']
  constructor
  · rintro ⟨h1, h2, h3⟩; exact ⟨h1.symm, h3, h2⟩
  · rintro ⟨h1, h2, h3⟩; exact ⟨h1.symm, h3, h2⟩
theorem mrg_symm (a b : List Vr) : mrgE b a = mrgE a b ∧ mergedL b a = mergedL a b := by
  cases ha : rightV a
  · have h1 := mrg_no (a := a) (b := b) (by rw [ha]; rfl)
    have h2 := mrg_no (a := b) (b := a) (by rw [ha]; simp)
    rw [h1.1, h1.2, h2.1, h2.2]; exact ⟨rfl, rfl⟩
  · cases hb : rightV b
    · have h1 := mrg_no (a := a) (b := b) (by rw [hb]; simp)
      have h2 := mrg_no (a := b) (b := a) (by rw [hb]; rfl)
      rw [h1.1, h1.2, h2.1, h2.2]; exact ⟨rfl, rfl⟩
    · have RA := rightV_true.1 ha
      have RB := rightV_true.1 hb
      have hs := mrgT_symm RA.1.2 RB.1.2
      cases ht : mrgT a b
      · have hj := joinV_symm RA RB ht
        have ht' : mrgT b a = false := by rw [← hs]; exact ht
        by_cases hl : 512 < (joinV a b).length
        · have h1 := mrg_long ha hb ht hl
          have h2 := mrg_long hb ha ht' (by rw [← hj]; exact hl)
          rw [h1.1, h1.2, h2.1, h2.2]; exact ⟨rfl, rfl⟩
        · have h1 := mrg_ok ha hb ht hl
          have h2 := mrg_ok hb ha ht' (by rw [← hj]; exact hl)
          rw [h1.1, h1.2, h2.1, h2.2, hj]; exact ⟨rfl, rfl⟩
      · have h1 := mrg_twin ha hb ht
        have h2 := mrg_twin hb ha (by rw [← hs]; exact ht)
        rw [h1.1, h1.2, h2.1, h2.2]; exact ⟨rfl, rfl⟩
/-- What stays of the first set. -/
theorem stays_law {a b : List Vr} (he : mrgE a b = 0) {k : Nat} {x : Vr} (hx : a[k]? = some x) : hasD (mergedL a b) x.s x.n = (!behB a x.s x.n && !behB b x.s x.n) := by
  rcases mrg_cases a b with ⟨_, e, l, ra, rb, t⟩ | ⟨h, _⟩
  · rw [e, Bool.eq_iff_iff, hasD_true]
    have hm := List.mem_of_getElem? hx
    simp only [Bool.and_eq_true, Bool.not_eq_true']
    constructor
    · rintro ⟨v, hv, d⟩
      have h := (mem_joinV ra rb t v).1 hv
      have e : x = v := by
        rcases h.1 with h1 | h1
        · exact sorted_own ra.1.2 x hm v h1 ⟨by omega, by omega⟩
        · exact noTwin ra rb t x hm v h1 ⟨by omega, by omega⟩
      rw [e]
      exact h.2
    · rintro ⟨h1, h2⟩
      exact ⟨x, (mem_joinV ra rb t x).2 ⟨.inl hm, h1, h2⟩, rfl, rfl⟩
  · exact absurd he h
theorem merged_right {a b : List Vr} (he : mrgE a b = 0) : rightV (mergedL a b) = true := by
  rcases mrg_cases a b with ⟨_, e, l, ra, rb, t⟩ | ⟨h, _⟩
  · rw [e]; exact rightV_true.2 (joinV_right ra rb t l)
  · exact absurd he h

/-- Such as writes make them. -/
def okPair (x y : Vr) : Prop := (hasB x.past y.s y.n = true → (∀ s n, has y.past s n → has x.past s n) ∧ hasB y.past x.s x.n = false) ∧ ((x.s = y.s ∧ x.n = y.n) → x = y)
def PlainP (L : List Vr) : Prop := ∀ x ∈ L, ∀ y ∈ L, okPair x y
theorem PlainP.mono {L L' : List Vr} (h : PlainP L) (hs : ∀ x ∈ L', x ∈ L) : PlainP L' := fun x hx y hy => h x (hs x hx) y (hs y hy)
theorem filter_lt {α : Type} {p q : α → Bool} : ∀ {l : List α}, (∀ x ∈ l, p x = true → q x = true) → (∃ x ∈ l, q x = true ∧ p x = false) → (l.filter p).length < (l.filter q).length
  | [], _, h => by obtain ⟨x, hx, _⟩ := h; cases hx
  | y :: r, h1, h2 => by
    have hle : ∀ {l : List α}, (∀ x ∈ l, p x = true → q x = true) → (l.filter p).length ≤ (l.filter q).length := by
      intro l
      induction l with
      | nil => intro _; simp
      | cons z l ih =>
        intro h
        have ih := ih (fun x hx => h x (List.mem_cons_of_mem _ hx))
        have hz := h z (List.mem_cons_self ..)
        rw [List.filter_cons, List.filter_cons]
        cases hp : p z
        · cases hq : q z
          · simpa using ih
          · simp; omega
        · rw [hz hp]; simpa using ih
    obtain ⟨x, hx, hq, hp⟩ := h2
    rw [List.filter_cons, List.filter_cons]
    rcases List.mem_cons.1 hx with rfl | hx
    · rw [hp, hq]
      have := hle (l := r) (fun x hx => h1 x (List.mem_cons_of_mem _ hx))
      simp
      omega
    · have ih := filter_lt (l := r) (fun x hx => h1 x (List.mem_cons_of_mem _ hx)) ⟨x, hx, hq, hp⟩
      have hy := h1 y (List.mem_cons_self ..)
      cases hpy : p y
      · cases hqy : q y
        · simpa using ih
        · simp; omega
      · rw [hy hpy]; simpa using ih
theorem hasB_sub {a b : List Sp} (h : ∀ s n, has a s n → has b s n) {s n : Int} (hh : hasB a s n = true) : hasB b s n = true := hasB_true.2 (h _ _ (hasB_true.1 hh))
/-- Of those behind which a dot lies, one is behind none. -/
theorem top_behind {L : List Vr} (hp : PlainP L) (hself : ∀ v ∈ L, hasB v.past v.s v.n = false) (s n : Int) : ∀ (k : Nat) (v : Vr), v ∈ L → (L.filter fun w => hasB w.past v.s v.n).length ≤ k → hasB v.past s n = true → ∃ m ∈ L, hasB m.past s n = true ∧ behB L m.s m.n = false := by
  intro k
  induction k with
  | zero =>
    intro v hv hk h
    refine ⟨v, hv, h, behB_false.2 fun w hw => ?_⟩
    cases hc : hasB w.past v.s v.n
    · rfl
    · have : w ∈ L.filter fun w => hasB w.past v.s v.n := List.mem_filter.2 ⟨hw, hc⟩
      rw [List.length_eq_zero_iff.1 (Nat.le_zero.1 hk)] at this
      cases this
  | succ k ih =>
    intro v hv hk h
    cases hb : behB L v.s v.n
    · exact ⟨v, hv, h, hb⟩
    · obtain ⟨w, hw, hwv⟩ := behB_true.1 hb
      have hsub := ((hp w hw v hv).1 hwv).1
      refine ih w hw ?_ (hasB_sub hsub h)
      have := filter_lt (p := fun u : Vr => hasB u.past w.s w.n) (q := fun u : Vr => hasB u.past v.s v.n) (l := L) (fun u hu huw => hasB_sub ((hp u hu w hw).1 huw).1 hwv) ⟨w, hw, hwv, hself w hw⟩
      omega
theorem beh_append (a b : List Vr) (s n : Int) : behB (a ++ b) s n = (behB a s n || behB b s n) := by unfold behB; rw [List.any_append]
/-- What a merged set came behind is what the two came behind. -/
theorem beh_join {a b : List Vr} (ra : RightV a) (rb : RightV b) (t : mrgT a b = false) (hp : PlainP (a ++ b)) (s n : Int) : behB (joinV a b) s n = (behB a s n || behB b s n) := by
  rw [← beh_append, Bool.eq_iff_iff]
  constructor
  · intro h
    obtain ⟨v, hv, hh⟩ := behB_true.1 h
    refine behB_true.2 ⟨v, ?_, hh⟩
    rcases ((mem_joinV ra rb t v).1 hv).1 with h1 | h1
    · exact List.mem_append_left _ h1
    · exact List.mem_append_right _ h1
  · intro h
    obtain ⟨v, hv, hh⟩ := behB_true.1 h
    have hself : ∀ v ∈ a ++ b, hasB v.past v.s v.n = false := fun v hv => by
      rcases List.mem_append.1 hv with h1 | h1
      · exact okV_own (ra.1.1 v h1).1
      · exact okV_own (rb.1.1 v h1).1
    obtain ⟨m, hm, hmh, hmb⟩ := top_behind hp hself s n _ v hv (Nat.le_refl _) hh
    rw [beh_append, Bool.or_eq_false_iff] at hmb
    exact behB_true.2 ⟨m, (mem_joinV ra rb t m).2 ⟨List.mem_append.1 hm, hmb.1, hmb.2⟩, hmh⟩
theorem again_law {a b : List Vr} (he : mrgE a b = 0) (hp : PlainP (a ++ b)) : mrgE (mergedL a b) b = 0 ∧ mergedL (mergedL a b) b = mergedL a b := by
  rcases mrg_cases a b with ⟨_, e, l, ra, rb, t⟩ | ⟨h, _⟩
  · have RX := joinV_right ra rb t l
    rw [e]
    have hb := beh_join ra rb t hp
    have t2 : mrgT (joinV a b) b = false := by
      rw [Bool.eq_false_iff]
      intro ht
      obtain ⟨x, hx, y, hy, k1, k2⟩ := (mrgT_iff _ _ RX.1.2 rb.1.2).1 ht
      rcases ((mem_joinV ra rb t x).1 hx).1 with h1 | h1
      · exact k2 (noTwin ra rb t x h1 y hy k1)
      · exact k2 (sorted_own rb.1.2 x h1 y hy k1)
    have j : joinV (joinV a b) b = joinV a b := sorted_ext (joinV_sorted RX rb) (joinV_sorted ra rb) fun v => by
      rw [mem_joinV RX rb t2]
      constructor
      · rintro ⟨h1 | h1, h2, h3⟩
        · exact h1
        · rw [hb, Bool.or_eq_false_iff] at h2
          exact (mem_joinV ra rb t v).2 ⟨.inr h1, h2.1, h2.2⟩
      · intro h
        exact ⟨.inl h, (RX.1.1 v h).2, ((mem_joinV ra rb t v).1 h).2.2⟩
    have := mrg_ok (rightV_true.2 RX) (rightV_true.2 rb) t2 (by rw [j]; omega)
    rw [j] at this
    exact this
  · exact absurd he h
theorem assoc_law {a b c : List Vr} (h1 : mrgE a b = 0) (h2 : mrgE b c = 0) (h3 : mrgE (mergedL a b) c = 0) (h4 : mrgE a (mergedL b c) = 0) (hp : PlainP (a ++ b ++ c)) : mergedL (mergedL a b) c = mergedL a (mergedL b c) := by
  rcases mrg_cases a b with ⟨_, e1, l1, ra, rb, t1⟩ | ⟨h, _⟩
  · rcases mrg_cases b c with ⟨_, e2, l2, _, rc, t2⟩ | ⟨h, _⟩
    · rw [e1] at h3 ⊢
      rw [e2] at h4 ⊢
      rcases mrg_cases (joinV a b) c with ⟨_, e3, l3, rx, _, t3⟩ | ⟨h, _⟩
      · rcases mrg_cases a (joinV b c) with ⟨_, e4, l4, _, ru, t4⟩ | ⟨h, _⟩
        · rw [e3, e4]
          have b1 := beh_join ra rb t1 (hp.mono fun x hx => List.mem_append_left _ hx)
          have b2 := beh_join rb rc t2 (hp.mono fun x hx => by
            rcases List.mem_append.1 hx with h | h
            · exact List.mem_append_left _ (List.mem_append_right _ h)
            · exact List.mem_append_right _ h)
          refine sorted_ext (joinV_sorted rx rc) (joinV_sorted ra ru) fun v => ?_
          rw [mem_joinV rx rc t3, mem_joinV ra ru t4, mem_joinV ra rb t1, mem_joinV rb rc t2, b1, b2, Bool.or_eq_false_iff, Bool.or_eq_false_iff]
          constructor
          · rintro ⟨h, ⟨ha, hb⟩, hc⟩
            refine ⟨?_, ha, hb, hc⟩
            rcases h with ⟨h | h, _⟩ | h
            · exact .inl h
            · exact .inr ⟨.inl h, hb, hc⟩
            · exact .inr ⟨.inr h, hb, hc⟩
          · rintro ⟨h, ha, hb, hc⟩
            refine ⟨?_, ⟨ha, hb⟩, hc⟩
            rcases h with h | ⟨h | h, _⟩
            · exact .inl ⟨.inl h, ha, hb⟩
            · exact .inl ⟨.inr h, ha, hb⟩
            · exact .inr h
        · exact absurd h4 h
      · exact absurd h3 h
    · exact absurd h2 h
  · exact absurd h1 h
end Go.Proofs.Ytlcfknpmnoghbaa
