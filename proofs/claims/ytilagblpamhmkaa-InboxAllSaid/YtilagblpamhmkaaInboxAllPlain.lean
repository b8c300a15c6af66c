/-
  firthlaw18.InboxAll in plain Lean: writes that came one behind the other are all handed on. No program is looked at here.
-/
import Derived.Test.YtilagblpamhmkaaInboxRight
namespace Go.Proofs.Ytilagblpamhmkaa
open Go.RowKit
set_option linter.unusedVariables false

def dotF (f : Fa) : Int × Int := (f.ver.s, f.ver.n)
theorem dotF_eq {f x : Fa} : sameDot f x = true ↔ dotF x = dotF f := by
  unfold sameDot dotF
  rw [decide_eq_true_iff, Prod.mk.injEq]
/-! ### Pasts -/
structure PastOk (v : List Int) (k : Int) (past : List Sp) : Prop where
  sp : ∀ x ∈ past, 1 ≤ x.1 ∧ x.1 ≤ k ∧ x.2.1 = 1 ∧ x.2.2 = v.getD (x.1.toNat - 1) 0 ∧ 0 < x.2.2
  asc : past.Pairwise fun a b => a.1 < b.1
  len : (past.length : Int) ≤ k
theorem PastOk.nil (v : List Int) : PastOk v 0 [] := ⟨fun x hx => (nomatch hx), List.Pairwise.nil, by simp⟩
theorem PastOk.skip {v : List Int} {k : Int} {past : List Sp} (h : PastOk v k past) : PastOk v (k + 1) past :=
  ⟨fun x hx => by have := h.sp x hx; omega, h.asc, by have := h.len; omega⟩
theorem PastOk.add {v : List Int} {k : Int} {past : List Sp} {z : Int} (h : PastOk v k past) (hk : 0 ≤ k) (hz : v.getD ((k + 1).toNat - 1) 0 = z) (h0 : 0 < z) : PastOk v (k + 1) (past ++ [(k + 1, 1, z)]) := by
  refine ⟨fun x hx => ?_, ?_, by rw [List.length_append]; have := h.len; simp; omega⟩
  · rcases List.mem_append.1 hx with hx | hx
    · have := h.sp x hx; omega
    · rw [List.mem_singleton.1 hx]
      exact ⟨by show 1 ≤ k + 1; omega, Int.le_refl _, rfl, hz.symm, h0⟩
  · rw [List.pairwise_append]
    refine ⟨h.asc, List.pairwise_singleton _ _, fun a ha b hb => ?_⟩
    rw [List.mem_singleton.1 hb]
    have := h.sp a ha
    show a.1 < k + 1
    omega
theorem topTo_lt {l : List Sp} {s n : Int} (h0 : 0 < n) (h : ∀ x ∈ l, x.1 = s → x.2.2 < n) : ∀ k, k ≤ l.length → topTo l s k < n
  | 0, _ => h0
  | k + 1, hk => by
    have ih := topTo_lt h0 h k (by omega)
    have hx : l[k]? = some (l[k]'(by omega)) := List.getElem?_eq_getElem _
    by_cases hc : (l[k]'(by omega)).1 = s ∧ topTo l s k < (l[k]'(by omega)).2.2
    · rw [topTo_yes hx hc.1 hc.2]
      exact h _ (List.getElem_mem _) hc.1
    · rw [topTo_no hx hc]
      exact ih
/-- The write of a number. -/
def farA (i : Nat) (s n : Int) (past : List Sp) : Fa := ⟨2, (i : Int), ⟨⟨#[107]⟩, [⟨s, n, past, false, ⟨#[]⟩⟩]⟩, []⟩
theorem farA_right {v : List Int} {i : Nat} {s : Int} {past : List Sp} (hp : PastOk v 3 past) (hs : 1 ≤ s ∧ s ≤ 3) (hv : ∀ j, j < 3 → 0 ≤ v.getD j 0 ∧ v.getD j 0 ≤ 1000) : rightF (farA i s (v.getD (s.toNat - 1) 0 + 1) past) = true := by
  have hvs := hv (s.toNat - 1) (by omega)
  have hto : ∀ x ∈ past, x.1 = s → x.2.2 < v.getD (s.toNat - 1) 0 + 1 := by
    intro x hx e
    have := (hp.sp x hx).2.2.2.1
    rw [e] at this
    omega
  have ho : okVB ⟨s, v.getD (s.toNat - 1) 0 + 1, past, false, ⟨#[]⟩⟩ = true := by
    refine okVB_true.2 ⟨dotB_true.2 (by simp only; omega), rightS_true.2 ⟨⟨fun x hx => ?_, ?_⟩, by have := hp.len; simp only; omega⟩, ?_, by show 0 ≤ 256; omega, fun h => by cases h⟩
    · obtain ⟨a, b, c, d, e⟩ := hp.sp x hx
      have := hv (x.1.toNat - 1) (by omega)
      exact ⟨a, by omega, by omega, by omega, by omega⟩
    · exact hp.asc.imp fun h => .inl h
    · exact topTo_lt (by omega) hto _ (Nat.le_refl _)
  have hb : hasB past s (v.getD (s.toNat - 1) 0 + 1) = false := hasB_false (by
    rintro ⟨x, hx, h1, h2, h3⟩
    have := hto x hx h1
    omega)
  have hv' : rightV [⟨s, v.getD (s.toNat - 1) 0 + 1, past, false, ⟨#[]⟩⟩] = true := by
    rw [rightV_true]
    refine ⟨⟨fun y hy => ?_, List.pairwise_singleton _ _⟩, by simp⟩
    rw [List.mem_singleton.1 hy]
    exact ⟨ho, behB_false.2 fun z hz => by rw [List.mem_singleton.1 hz]; exact hb⟩
  have hr : rightR (farA i s (v.getD (s.toNat - 1) 0 + 1) past).rc = true := rightR_true.2 ⟨Nat.le_refl 1, show 1 ≤ 32 by omega, hv'⟩
  unfold rightF
  rw [hr]
  rfl
/-! ### All writes -/
structure Good (prev : List Fa) (f : Fa) : Prop where
  right : rightF f = true
  s : 1 ≤ f.ver.s ∧ f.ver.s ≤ 3
  n : 1 ≤ f.ver.n
  ahead : ∀ m, 1 ≤ m → m < f.ver.n → ∃ g ∈ prev, dotF g = (f.ver.s, m)
  past : ∀ x ∈ f.ver.past, 1 ≤ x.1 ∧ x.1 ≤ 3 ∧ ∃ g ∈ prev, dotF g = (x.1, x.2.2)
structure Built (l : List Fa) (v : List Int) : Prop where
  len : v.length = 3
  cnt : ∀ j, j < 3 → 0 ≤ v.getD j 0 ∧ v.getD j 0 ≤ l.length
  good : ∀ j f, l[j]? = some f → Good (l.take j) f
  dots : ∀ s m : Int, 1 ≤ s → s ≤ 3 → (1 ≤ m ∧ m ≤ v.getD (s.toNat - 1) 0 ↔ ∃ f ∈ l, dotF f = (s, m))
  nodup : (l.map dotF).Nodup
theorem Built.nil : Built [] [0, 0, 0] := by
  have h0 : ∀ j, ([0, 0, 0] : List Int).getD j 0 = 0 := by
    intro j
    rcases j with _ | _ | _ | j <;> rfl
  exact ⟨rfl, fun j _ => by rw [h0]; simp, fun j f h => by simp at h, fun s m _ _ => ⟨fun h => by rw [h0] at h; omega, fun ⟨f, hf, _⟩ => by cases hf⟩, List.nodup_nil⟩
theorem getD_set {v : List Int} {k j : Nat} {z : Int} (hk : k < v.length) : (v.set k z).getD j 0 = if j = k then z else v.getD j 0 := by
  rw [List.getD_eq_getElem?_getD, List.getElem?_set]
  by_cases h : k = j
  · subst h; rw [if_pos rfl, if_pos rfl, if_pos hk]; rfl
  · rw [if_neg h, if_neg (fun e => h e.symm), ← List.getD_eq_getElem?_getD]
theorem Built.snoc {l : List Fa} {v : List Int} (h : Built l v) (hl : l.length ≤ 60) {s : Int} (hs : 1 ≤ s ∧ s ≤ 3) {past : List Sp} (hp : PastOk v 3 past) (i : Nat) :
    Built (l ++ [farA i s (v.getD (s.toNat - 1) 0 + 1) past]) (v.set (s.toNat - 1) (v.getD (s.toNat - 1) 0 + 1)) := by
  have hk : s.toNat - 1 < v.length := by rw [h.len]; omega
  have hvs := h.cnt (s.toNat - 1) (by omega)
  have hdf : dotF (farA i s (v.getD (s.toNat - 1) 0 + 1) past) = (s, v.getD (s.toNat - 1) 0 + 1) := rfl
  have hnew : ∀ f ∈ l, dotF f ≠ (s, v.getD (s.toNat - 1) 0 + 1) := fun f hf e => by
    have := (h.dots s (v.getD (s.toNat - 1) 0 + 1) hs.1 hs.2).2 ⟨f, hf, e⟩
    omega
  refine ⟨by rw [List.length_set]; exact h.len, fun j hj => ?_, fun j f hf => ?_, fun t m ht1 ht2 => ?_, ?_⟩
  · rw [getD_set hk, List.length_append, List.length_singleton]
    have := h.cnt j hj
    split <;> omega
  · by_cases hj : j < l.length
    · rw [List.getElem?_append_left hj] at hf
      rw [List.take_append_of_le_length (by omega)]
      exact h.good j f hf
    · have hje : j = l.length := by
        have := (List.getElem?_eq_some_iff.1 hf).1
        rw [List.length_append, List.length_singleton] at this
        omega
      subst hje
      rw [List.getElem?_append_right (Nat.le_refl _), Nat.sub_self] at hf
      simp only [List.getElem?_cons_zero, Option.some.injEq] at hf
      subst hf
      rw [List.take_append_of_le_length (Nat.le_refl _), List.take_length]
      refine ⟨farA_right hp hs (fun j hj => by have := h.cnt j hj; omega), hs, by show 1 ≤ v.getD (s.toNat - 1) 0 + 1; omega, fun m hm1 hm2 => ?_, fun x hx => ?_⟩
      · exact (h.dots s m hs.1 hs.2).1 ⟨hm1, by have hm3 : m < v.getD (s.toNat - 1) 0 + 1 := hm2; omega⟩
      · obtain ⟨a, b, c, d, e⟩ := hp.sp x hx
        exact ⟨a, b, (h.dots x.1 x.2.2 a b).1 ⟨by omega, by omega⟩⟩
  · rw [getD_set hk]
    by_cases ht : t = s
    · subst ht
      rw [if_pos rfl]
      constructor
      · intro hm
        by_cases hm2 : m = v.getD (t.toNat - 1) 0 + 1
        · exact ⟨_, List.mem_append.2 (.inr (List.mem_singleton.2 rfl)), by rw [hdf, hm2]⟩
        · obtain ⟨f, hf, e⟩ := (h.dots t m ht1 ht2).1 ⟨hm.1, by omega⟩
          exact ⟨f, List.mem_append.2 (.inl hf), e⟩
      · rintro ⟨f, hf, e⟩
        rcases List.mem_append.1 hf with hf | hf
        · have := (h.dots t m ht1 ht2).2 ⟨f, hf, e⟩
          omega
        · rw [List.mem_singleton.1 hf, hdf] at e
          injection e with e1 e2
          omega
    · rw [if_neg (by omega)]
      rw [h.dots t m ht1 ht2]
      constructor
      · rintro ⟨f, hf, e⟩
        exact ⟨f, List.mem_append.2 (.inl hf), e⟩
      · rintro ⟨f, hf, e⟩
        rcases List.mem_append.1 hf with hf | hf
        · exact ⟨f, hf, e⟩
        · rw [List.mem_singleton.1 hf, hdf] at e
          injection e with e1 e2
          exact absurd e1.symm ht
  · rw [List.map_append, List.nodup_append]
    refine ⟨h.nodup, by simp, fun a ha b hb => ?_⟩
    obtain ⟨f, hf, rfl⟩ := List.mem_map.1 ha
    simp only [List.map_cons, List.map_nil, List.mem_singleton] at hb
    rw [hb, hdf]
    exact hnew f hf
/-! ### The inbox -/
theorem nodup_sub {α : Type} [DecidableEq α] : ∀ {l m : List α}, l.Nodup → (∀ x ∈ l, x ∈ m) → l.length ≤ m.length
  | [], _, _, _ => Nat.zero_le _
  | a :: l, m, hn, hs => by
    have ha := hs a (List.mem_cons_self ..)
    obtain ⟨h1, h2⟩ := List.nodup_cons.1 hn
    have ih := nodup_sub (m := m.erase a) h2 (fun x hx => (List.mem_erase_of_ne (fun e => h1 (by rw [← e]; exact hx))).2 (hs x (List.mem_cons_of_mem _ hx)))
    rw [List.length_erase_of_mem ha] at ih
    have := List.length_pos_of_mem ha
    rw [List.length_cons]
    omega
structure Run (all : List Fa) (v now : List Int) (L : List Fa) (m : Nat) : Prop where
  len : now.length = 3
  sub : ∀ f ∈ L, f ∈ all
  nodup : (L.map dotF).Nodup
  unc : ∀ f ∈ L, covB now f = false
  cnt : ∀ j, j < 3 → 0 ≤ now.getD j 0 ∧ now.getD j 0 ≤ v.getD j 0
  off : ∀ j f, j < m → all[j]? = some f → covB now f = true ∨ f ∈ L
section
variable {all L : List Fa} {v now : List Int} {m : Nat} {f : Fa}
theorem Built.mem (h : Built all v) (hf : f ∈ all) : ∃ j, all[j]? = some f ∧ Good (all.take j) f := by
  obtain ⟨j, hj, rfl⟩ := List.getElem_of_mem hf
  exact ⟨j, List.getElem?_eq_getElem hj, h.good j _ (List.getElem?_eq_getElem hj)⟩
theorem inj_dot : ∀ {l : List Fa} {f g : Fa}, (l.map dotF).Nodup → f ∈ l → g ∈ l → dotF f = dotF g → f = g
  | [], _, _, _, hf, _, _ => by cases hf
  | a :: l, f, g, hn, hf, hg, e => by
    rw [List.map_cons, List.nodup_cons] at hn
    rcases List.mem_cons.1 hf with h1 | h1
    · rcases List.mem_cons.1 hg with h2 | h2
      · rw [h1, h2]
      · exact absurd (List.mem_map.2 ⟨g, h2, by rw [← e, h1]⟩) hn.1
    · rcases List.mem_cons.1 hg with h2 | h2
      · exact absurd (List.mem_map.2 ⟨f, h1, by rw [e, h2]⟩) hn.1
      · exact inj_dot hn.2 h1 h2 e
theorem Run.start (h : Built all v) : Run all v [0, 0, 0] [] 0 := by
  have h0 : ∀ j, ([0, 0, 0] : List Int).getD j 0 = 0 := by
    intro j
    rcases j with _ | _ | _ | j <;> rfl
  exact ⟨rfl, fun f hf => (nomatch hf), List.nodup_nil, fun f hf => (nomatch hf), fun j hj => by rw [h0]; exact ⟨Int.le_refl _, (h.cnt j hj).1⟩, fun j f hj => by omega⟩
/-- One is told. -/
theorem Run.take (h : Run all v now L m) (hb : Built all v) (hf : f ∈ all) :
    (takeA all.length L f now = 1 ∨ takeA all.length L f now = 2 ∨ takeA all.length L f now = 3) ∧ Run all v now (takeI all.length L f now) m ∧ (covB now f = true ∨ f ∈ takeI all.length L f now) := by
  obtain ⟨j, hj, hg⟩ := hb.mem hf
  cases hc : covB now f
  · cases ht : L.any (sameDot f)
    · have hnd : ∀ g ∈ L, dotF g ≠ dotF f := fun g hg e => by
        rw [List.any_eq_false] at ht
        exact ht g hg (dotF_eq.2 e)
      have hlen : L.length < all.length := by
        have h1 : (dotF f :: L.map dotF).length ≤ (all.map dotF).length := nodup_sub (List.nodup_cons.2 ⟨fun hm => by
          obtain ⟨g, hg, e⟩ := List.mem_map.1 hm
          exact hnd g hg e, h.nodup⟩) (fun x hx => by
          rcases List.mem_cons.1 hx with rfl | hx
          · exact List.mem_map.2 ⟨f, hf, rfl⟩
          · obtain ⟨g, hg, rfl⟩ := List.mem_map.1 hx
            exact List.mem_map.2 ⟨g, h.sub g hg, rfl⟩)
        simp only [List.length_cons, List.length_map] at h1
        omega
      obtain ⟨e1, e2⟩ := takeA_kept (room := (all.length : Int)) hg.right hc ht (fun hh => by omega)
      rw [e1, e2]
      refine ⟨.inr (.inl rfl), ⟨h.len, fun g hg => ?_, ?_, fun g hg => ?_, h.cnt, fun i g hi hgi => (h.off i g hi hgi).imp (fun x => x) (fun x => List.mem_append.2 (.inl x))⟩, .inr (List.mem_append.2 (.inr (List.mem_singleton.2 rfl)))⟩
      · rcases List.mem_append.1 hg with hg | hg
        · exact h.sub g hg
        · rw [List.mem_singleton.1 hg]; exact hf
      · rw [List.map_append, List.nodup_append]
        refine ⟨h.nodup, by simp, fun a ha b hb => ?_⟩
        obtain ⟨g, hg, rfl⟩ := List.mem_map.1 ha
        simp only [List.map_cons, List.map_nil, List.mem_singleton] at hb
        rw [hb]
        exact hnd g hg
      · rcases List.mem_append.1 hg with hg | hg
        · exact h.unc g hg
        · rw [List.mem_singleton.1 hg]; exact hc
    · obtain ⟨e1, e2⟩ := takeA_twice (room := (all.length : Int)) hg.right hc ht
      rw [e1, e2]
      obtain ⟨g, hg1, hg2⟩ := List.any_eq_true.1 ht
      have := inj_dot hb.nodup (h.sub g hg1) hf (dotF_eq.1 hg2)
      exact ⟨.inr (.inr rfl), h, .inr (this ▸ hg1)⟩
  · obtain ⟨e1, e2⟩ := takeA_cov (room := (all.length : Int)) (l := L) hg.right hc
    rw [e1, e2]
    exact ⟨.inl rfl, h, .inl rfl⟩
theorem Run.offer (h : Run all v now L m) (hb : Built all v) (hf : all[m]? = some f) : Run all v now (takeI all.length L f now) (m + 1) := by
  obtain ⟨-, h1, h2⟩ := h.take hb (List.mem_of_getElem? hf)
  refine ⟨h1.len, h1.sub, h1.nodup, h1.unc, h1.cnt, fun j g hj hg => ?_⟩
  by_cases hjm : j = m
  · subst hjm
    rw [hf] at hg
    injection hg with hg
    rw [← hg]
    exact h2
  · exact h1.off j g (by omega) hg
theorem cov_iff {now : List Int} {f : Fa} (hl : now.length = 3) (hs : 1 ≤ f.ver.s ∧ f.ver.s ≤ 3) (hn : 1 ≤ f.ver.n) : covB now f = decide (f.ver.n ≤ now.getD (f.ver.s.toNat - 1) 0) := by
  unfold covB coversB
  rw [decide_eq_true hs.1, decide_eq_true (show f.ver.s ≤ (now.length : Int) by omega), decide_eq_true hn]
  simp
/-- One is handed on. -/
theorem Run.ready (h : Run all v now L m) (hb : Built all v) {k : Nat} (hr : readyI L now = some k) (hf : L[k]? = some f) :
    (1 ≤ f.ver.s ∧ f.ver.s ≤ 3) ∧ Run all v (now.set (f.ver.s.toNat - 1) f.ver.n) (L.eraseIdx k) m := by
  obtain ⟨f', hf', hmay, hkl⟩ := readyI_lt hr
  rw [hf] at hf'
  injection hf' with hf'
  subst hf'
  have hfL := List.mem_of_getElem? hf
  obtain ⟨j, hj, hg⟩ := hb.mem (h.sub f hfL)
  obtain ⟨hnx, hho⟩ := may_true hmay
  obtain ⟨_, _, _, hn⟩ := next_pos hnx
  have hk : f.ver.s.toNat - 1 < now.length := by rw [h.len]; have := hg.s; omega
  have hdn : f.ver.n ≤ v.getD (f.ver.s.toNat - 1) 0 := ((hb.dots f.ver.s f.ver.n hg.s.1 hg.s.2).2 ⟨f, h.sub f hfL, rfl⟩).2
  have hmem : ∀ g ∈ L.eraseIdx k, g ∈ L ∧ dotF g ≠ dotF f := by
    intro g hgm
    refine ⟨List.mem_of_mem_eraseIdx hgm, fun e => ?_⟩
    obtain ⟨i, hi⟩ := List.mem_iff_getElem?.1 hgm
    rw [List.getElem?_eraseIdx] at hi
    have hinj : ∀ a b : Nat, (L.map dotF)[a]? = some (dotF f) → (L.map dotF)[b]? = some (dotF f) → a = b := by
      intro a b ha hb'
      obtain ⟨ha', ea⟩ := List.getElem?_eq_some_iff.1 ha
      obtain ⟨hb2, eb⟩ := List.getElem?_eq_some_iff.1 hb'
      have hp := List.pairwise_iff_getElem.1 h.nodup
      rcases Nat.lt_trichotomy a b with hlt | hlt | hlt
      · exact absurd (ea.trans eb.symm) (hp a b ha' hb2 hlt)
      · exact hlt
      · exact absurd (eb.trans ea.symm) (hp b a hb2 ha' hlt)
    have hkk : (L.map dotF)[k]? = some (dotF f) := by rw [List.getElem?_map, hf]; rfl
    split at hi
    · have := hinj i k (by rw [List.getElem?_map, hi]; exact congrArg some e) hkk
      omega
    · have := hinj (i + 1) k (by rw [List.getElem?_map, hi]; exact congrArg some e) hkk
      omega
  have hmono : ∀ g ∈ all, covB now g = true → covB (now.set (f.ver.s.toNat - 1) f.ver.n) g = true := by
    intro g hga hc
    obtain ⟨_, _, hgg⟩ := hb.mem hga
    rw [cov_iff h.len hgg.s hgg.n] at hc
    rw [cov_iff (by rw [List.length_set]; exact h.len) hgg.s hgg.n, getD_set hk]
    have hc' := of_decide_eq_true hc
    refine decide_eq_true ?_
    split
    · rename_i e; rw [e] at hc'; omega
    · exact hc'
  refine ⟨hg.s, ⟨by rw [List.length_set]; exact h.len, fun g hgm => h.sub g (hmem g hgm).1, h.nodup.sublist ((List.eraseIdx_sublist L k).map dotF), fun g hgm => ?_, fun i hi => ?_, fun i g hi hgi => ?_⟩⟩
  · obtain ⟨hgL, hne⟩ := hmem g hgm
    obtain ⟨_, _, hgg⟩ := hb.mem (h.sub g hgL)
    have hu := h.unc g hgL
    rw [cov_iff h.len hgg.s hgg.n] at hu
    rw [cov_iff (by rw [List.length_set]; exact h.len) hgg.s hgg.n, getD_set hk]
    have hu' := of_decide_eq_false hu
    refine decide_eq_false ?_
    split
    · rename_i e
      have hss : g.ver.s = f.ver.s := by have := hgg.s; have := hg.s; omega
      have hnn : g.ver.n ≠ f.ver.n := fun e2 => hne (by unfold dotF; rw [hss, e2])
      rw [e] at hu'
      omega
    · exact hu'
  · have := h.cnt i hi
    rw [getD_set hk]
    split
    · rename_i e; subst e; have := hg.n; omega
    · exact this
  · rcases h.off i g hi hgi with hc | hc
    · exact .inl (hmono g (List.mem_of_getElem? hgi) hc)
    · by_cases hgf : dotF g = dotF f
      · refine .inl ?_
        have : g = f := inj_dot h.nodup hc hfL hgf
        subst this
        rw [cov_iff (by rw [List.length_set]; exact h.len) hg.s hg.n, getD_set hk, if_pos rfl]
        exact decide_eq_true (Int.le_refl _)
      · refine .inr ?_
        obtain ⟨b, hb'⟩ := List.mem_iff_getElem?.1 hc
        have hbk : b ≠ k := fun e => by
          subst e
          rw [hf] at hb'
          injection hb' with hb'
          exact hgf (by rw [hb'])
        rw [List.mem_eraseIdx_iff_getElem?]
        exact ⟨b, hbk, hb'⟩
/-- All are handed on. -/
theorem Run.done (h : Run all v now L all.length) (hb : Built all v) (hN : all.length ≤ 61) (hr : readyI L now = none) : now = v ∧ L = [] := by
  have hcov : ∀ (j : Nat) (f : Fa), all[j]? = some f → covB now f = true := by
    intro j
    induction j using Nat.strongRecOn with
    | _ j ih =>
      intro f hf
      have hg := hb.good j f hf
      have hjl := (List.getElem?_eq_some_iff.1 hf).1
      rcases h.off j f hjl hf with hc | hc
      · exact hc
      · exfalso
        have hu := h.unc f hc
        rw [cov_iff h.len hg.s hg.n] at hu
        have hu' := of_decide_eq_false hu
        have pre : ∀ g ∈ all.take j, covB now g = true := fun g hgm => by
          obtain ⟨i, hi⟩ := List.mem_iff_getElem?.1 hgm
          rw [List.getElem?_take] at hi
          split at hi
          · rename_i hij; exact ih i hij g hi
          · cases hi
        have hpc : ∀ s m : Int, 1 ≤ s → s ≤ 3 → (∃ g ∈ all.take j, dotF g = (s, m)) → m ≤ now.getD (s.toNat - 1) 0 := by
          rintro s m h1 h2 ⟨g, hgm, e⟩
          have h3 := pre g hgm
          unfold dotF at e
          injection e with e1 e2
          obtain ⟨_, _, hgg⟩ := hb.mem (List.mem_of_mem_take hgm)
          rw [cov_iff h.len hgg.s hgg.n] at h3
          have h4 := of_decide_eq_true h3
          rw [e1, e2] at h4
          exact h4
        have hc0 := h.cnt (f.ver.s.toNat - 1) (by have := hg.s; omega)
        have hnow : now.getD (f.ver.s.toNat - 1) 0 = f.ver.n - 1 := by
          by_cases hn1 : f.ver.n = 1
          · omega
          · have := hpc f.ver.s (f.ver.n - 1) hg.s.1 hg.s.2 (hg.ahead (f.ver.n - 1) (by have := hg.n; omega) (by omega))
            omega
        have hbd : ∀ j, j < 3 → 0 ≤ now.getD j 0 ∧ now.getD j 0 ≤ 4611686018427387904 := fun j hj => by
          have h1 := h.cnt j hj
          have h2 := (hb.cnt j hj).2
          omega
        have hright : rightB now = true := by
          unfold rightB
          rw [h.len]
          simp only [Bool.and_eq_true]
          refine ⟨by decide, List.all_eq_true.2 fun z hz => ?_⟩
          obtain ⟨i, hi, rfl⟩ := List.getElem_of_mem hz
          have := hbd i (by rw [h.len] at hi; exact hi)
          rw [List.getD_eq_getElem?_getD, List.getElem?_eq_getElem hi] at this
          unfold okB
          simp only [Bool.and_eq_true, decide_eq_true_eq]
          exact this
        have hnext : nextOf now f.ver.s = (f.ver.s, f.ver.n, 0) := by
          unfold nextOf
          rw [if_neg (by rintro (h1 | h1 | h1) <;> first | (rw [hright] at h1; cases h1) | (have := hg.s; have := h.len; omega)), if_neg, hnow]
          · congr 2
            omega
          · have := (hb.cnt (f.ver.s.toNat - 1) (by have := hg.s; omega)).2
            omega
        have hholds : holdsB now f.ver.past = true := by
          unfold holdsB
          rw [List.all_eq_true]
          intro x hx
          obtain ⟨p1, p2, p3⟩ := hg.past x hx
          have h5 := hpc x.1 x.2.2 p1 p2 p3
          obtain ⟨g, hgm, e⟩ := p3
          obtain ⟨_, _, hgg⟩ := hb.mem (List.mem_of_mem_take hgm)
          have h6 : 1 ≤ x.2.2 := by unfold dotF at e; injection e with e1 e2; have := hgg.n; omega
          unfold coversB
          rw [decide_eq_true p1, decide_eq_true (show x.1 ≤ (now.length : Int) by rw [h.len]; omega), decide_eq_true h6, decide_eq_true h5]
          rfl
        have hmay : mayB now f = true := by
          unfold mayB
          rw [hnext, hholds]
          simp
        have := readyI_none hr f hc
        rw [hmay] at this
        cases this
  have hL : L = [] := by
    cases L with
    | nil => rfl
    | cons a t =>
      exfalso
      have ha : a ∈ a :: t := List.mem_cons_self ..
      obtain ⟨j, hj, _⟩ := hb.mem (h.sub a ha)
      have h1 := hcov j a hj
      have h2 := h.unc a ha
      rw [h1] at h2
      cases h2
  refine ⟨?_, hL⟩
  apply List.ext_getElem (by rw [h.len, hb.len])
  intro j h1 h2
  have hj3 : j < 3 := by rw [h.len] at h1; exact h1
  have hc := h.cnt j hj3
  have e1 : now.getD j 0 = now[j] := by rw [List.getD_eq_getElem?_getD, List.getElem?_eq_getElem h1]; rfl
  have e2 : v.getD j 0 = v[j] := by rw [List.getD_eq_getElem?_getD, List.getElem?_eq_getElem h2]; rfl
  rw [← e1, ← e2]
  by_cases hv0 : v.getD j 0 = 0
  · omega
  · obtain ⟨f, hf, e⟩ := (hb.dots ((j : Int) + 1) (v.getD j 0) (by omega) (by omega)).1 ⟨by have := (hb.cnt j hj3).1; omega, by rw [show ((j : Int) + 1).toNat - 1 = j by omega]; exact Int.le_refl _⟩
    obtain ⟨i, hi, hgg⟩ := hb.mem hf
    have h3 := hcov i f hi
    rw [cov_iff h.len hgg.s hgg.n] at h3
    have h4 := of_decide_eq_true h3
    unfold dotF at e
    injection e with e3 e4
    rw [e3, e4, show ((j : Int) + 1).toNat - 1 = j by omega] at h4
    omega
end
end Go.Proofs.Ytilagblpamhmkaa
