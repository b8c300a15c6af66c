/-
  The program's network and the document's, side by side.
-/
import Derived.Test.YtcdbpimpmhfkhaaNetRefFlip2
namespace Go.Proofs.Ytcdbpimpmhfkhaa
open Go.RowKit
set_option linter.unusedVariables false

/-- The pairs of places of both are the same. -/
def Par (cl : List K4) (C : K4 → Bool) : Prop := ∀ a b x y, partedL cl a b x y = C (pairK a b x y)
theorem Par.nil : Par [] (fun _ => false) := fun _ _ _ _ => rfl
theorem hitB_iff (k : K4) (a b x y : Int) : hitB k a b x y = true ↔ pairK k.a k.b k.c k.d = pairK a b x y := by
  rw [pairK_iff]
  unfold hitB
  simp only [Bool.or_eq_true, Bool.and_eq_true, decide_eq_true_iff]
  constructor
  · rintro (⟨⟨h1, h2⟩, h3, h4⟩ | ⟨⟨h1, h2⟩, h3, h4⟩)
    · exact .inl ⟨h1, h2, h3, h4⟩
    · exact .inr ⟨h1, h2, h3, h4⟩
  · rintro (⟨h1, h2, h3, h4⟩ | ⟨h1, h2, h3, h4⟩)
    · exact .inl ⟨⟨h1, h2⟩, h3, h4⟩
    · exact .inr ⟨⟨h1, h2⟩, h3, h4⟩
theorem partedL_iff (cl : List K4) (a b x y : Int) : partedL cl a b x y = true ↔ ∃ k ∈ cl, pairK k.a k.b k.c k.d = pairK a b x y := by
  unfold partedL
  rw [List.any_eq_true]
  constructor
  · rintro ⟨k, h1, h2⟩
    exact ⟨k, h1, (hitB_iff _ _ _ _ _).1 h2⟩
  · rintro ⟨k, h1, h2⟩
    exact ⟨k, h1, (hitB_iff _ _ _ _ _).2 h2⟩
theorem Par.part {cl : List K4} {C : K4 → Bool} (h : Par cl C) (as_ an bs bn : Int) (cut : Bool) : Par (partL cl as_ an bs bn cut) (partC C (pairK as_ an bs bn) (cut && !decide (as_ = bs ∧ an = bn))) := by
  intro a b x y
  rw [Bool.eq_iff_iff, partedL_iff]
  unfold partC partL
  have h0 := h a b x y
  rw [Bool.eq_iff_iff, partedL_iff] at h0
  by_cases e : pairK a b x y = pairK as_ an bs bn
  · rw [if_pos e]
    constructor
    · rintro ⟨k, hk, hk2⟩
      rcases List.mem_append.1 hk with hk | hk
      · have h1 := (List.mem_filter.1 hk).2
        have h2 := (hitB_iff k as_ an bs bn).2 (hk2.trans e)
        rw [h2] at h1
        simp at h1
      · split at hk
        · assumption
        · cases hk
    · intro hc
      refine ⟨⟨as_, an, bs, bn⟩, List.mem_append.2 (.inr ?_), e.symm⟩
      rw [if_pos hc]
      exact List.mem_singleton.2 rfl
  · rw [if_neg e, ← h0]
    constructor
    · rintro ⟨k, hk, hk2⟩
      rcases List.mem_append.1 hk with hk | hk
      · exact ⟨k, (List.mem_filter.1 hk).1, hk2⟩
      · split at hk
        · rw [List.mem_singleton.1 hk] at hk2
          exact absurd hk2.symm e
        · cases hk
    · rintro ⟨k, hk, hk2⟩
      refine ⟨k, List.mem_append.2 (.inl (List.mem_filter.2 ⟨hk, ?_⟩)), hk2⟩
      cases hh : hitB k as_ an bs bn
      · rfl
      · exact absurd (hk2.symm.trans ((hitB_iff k as_ an bs bn).1 hh)) e
theorem partL_len (cl : List K4) (as_ an bs bn : Int) (cut : Bool) : (partL cl as_ an bs bn cut).length ≤ cl.length + 1 := by
  unfold partL
  rw [List.length_append]
  have := List.length_filter_le (fun k => !hitB k as_ an bs bn) cl
  split <;> simp <;> omega
/-- Both of them, apart; what is in K is as it was in w0. -/
def NBoth (K : Nat → Prop) (w0 w : World) (p q : Nat) (l : List Pk) (C : K4 → Bool) (c : Cnt) (m : Nat) (r : List Pk) (cl : List K4) (d : Cnt) : Prop :=
  ∃ G fs fr, G.p = p ∧ NetG w fs G l C c m ∧ RNet w fr q r cl d ∧ (∀ b, fs b → ¬ fr b) ∧ (∀ b, fs b → ¬ K b) ∧ (∀ b, fr b → ¬ K b) ∧ Fr (fun b => ¬ K b) w0 w ∧ ∀ b, K b → b < w0.heap.size
section
variable {K : Nat → Prop} {w0 w w' : World} {p q m : Nat} {l l' r r' : List Pk} {C C' : K4 → Bool} {cl cl' : List K4} {c c' d d' : Cnt} {m' : Nat}
theorem NBoth.stepS {G' : NGeo} {fs fr fs' : Nat → Prop} (hr : RNet w fr q r cl d) (hd : ∀ b, fs b → ¬ fr b) (hs : ∀ b, fs b → ¬ K b) (hk : ∀ b, fr b → ¬ K b) (hF : Fr (fun b => ¬ K b) w0 w) (hK : ∀ b, K b → b < w0.heap.size)
    (hG : G'.p = p) (h' : NetG w' fs' G' l' C' c' m') (F : Fr fs w w') (gr : Grow w fs fs') : NBoth K w0 w' p q l' C' c' m' r cl d :=
  ⟨G', fs', fr, hG, h', hr.kept (F.kept fun i hi hi' => hd i hi' hi) F.size, fun b hb hb' => (gr b hb).elim (fun h => hd b h hb') (fun h => by have := hr.lt b hb'; omega),
    fun b hb hKb => (gr b hb).elim (fun h => hs b h hKb) (fun h => by have := hK b hKb; have := hF.size; omega), hk, hF.trans F (fun i hi => .inl (hs i hi)), hK⟩
theorem NBoth.stepR {G : NGeo} {fs fr fr' : Nat → Prop} (hS : NetG w fs G l C c m) (hd : ∀ b, fs b → ¬ fr b) (hs : ∀ b, fs b → ¬ K b) (hk : ∀ b, fr b → ¬ K b) (hF : Fr (fun b => ¬ K b) w0 w) (hK : ∀ b, K b → b < w0.heap.size)
    (hG : G.p = p) (h' : RNet w' fr' q r' cl' d') (F : Fr fr w w') (gr : Grow w fr fr') : NBoth K w0 w' p q l C c m r' cl' d' :=
  ⟨G, fs, fr', hG, hS.kept (F.kept fun i hi hi' => hd i hi hi') F.size, h', fun b hb hb' => (gr b hb').elim (fun h => hd b hb h) (fun h => by have := hS.lt b hb; omega),
    hs, fun b hb hKb => (gr b hb).elim (fun h => hk b h hKb) (fun h => by have := hK b hKb; have := hF.size; omega), hF.trans F (fun i hi => .inl (hk i hi)), hK⟩
theorem NBoth.below (h : NBoth K w0 w p q l C c m r cl d) (hb : Below w.heap.size w w') : NBoth K w0 w' p q l C c m r cl d := by
  obtain ⟨G, fs, fr, hG, h1, h2, h3, h4, h5, h6, h7⟩ := h
  exact ⟨G, fs, fr, hG, h1.below hb, h2.below hb, h3, h4, h5, h6.trans (Fr.of_below hb (fp := fun _ => False)) (fun _ h => h.elim), h7⟩
theorem NBoth.fr (h : NBoth K w0 w p q l C c m r cl d) : Fr (fun b => ¬ K b) w0 w := by obtain ⟨G, fs, fr, hG, h1, h2, h3, h4, h5, h6, h7⟩ := h; exact h6
theorem NBoth.over {K2 : Nat → Prop} {w1 : World} (h : NBoth K w0 w p q l C c m r cl d) (hb : Below w.heap.size w w1) (hK : ∀ b, K2 b → K b ∨ w.heap.size ≤ b ∧ b < w1.heap.size) : NBoth K2 w1 w1 p q l C c m r cl d := by
  obtain ⟨G, fs, fr, hG, h1, h2, h3, h4, h5, h6, h7⟩ := h
  refine ⟨G, fs, fr, hG, h1.below hb, h2.below hb, h3, fun b hb' hk => (hK b hk).elim (h4 b hb') (fun hh => by have := h1.lt b hb'; omega), fun b hb' hk => (hK b hk).elim (h5 b hb') (fun hh => by have := h2.lt b hb'; omega), Fr.refl _ _, fun b hk => (hK b hk).elim (fun hk => ?_) (fun hh => hh.2)⟩
  have := h7 b hk
  have := h6.size
  have := hb.size
  omega
theorem NBoth.back {K2 : Nat → Prop} {w1 wb : World} (h : NBoth K2 wb w' p q l C c m r cl d) (F : Fr (fun b => ¬ K b) w1 wb) (hK : ∀ b, K b → K2 b) (hl : ∀ b, K b → b < w1.heap.size) : NBoth K w1 w' p q l C c m r cl d := by
  obtain ⟨G, fs, fr, hG, h1, h2, h3, h4, h5, h6, h7⟩ := h
  exact ⟨G, fs, fr, hG, h1, h2, h3, fun b hb hk => h4 b hb (hK b hk), fun b hb hk => h5 b hb (hK b hk), F.trans h6 (fun i hi => .inl fun hk => hi (hK i hk)), hl⟩
theorem NBoth.len (h : NBoth K w0 w p q l C c m r cl d) : l.length ≤ 4096 := by obtain ⟨G, fs, fr, hG, h1, h2, h3, h4, h5, h6, h7⟩ := h; exact h1.len
theorem NBoth.klt (h : NBoth K w0 w p q l C c m r cl d) : ∀ b, K b → b < w0.heap.size := by obtain ⟨G, fs, fr, hG, h1, h2, h3, h4, h5, h6, h7⟩ := h; exact h7
theorem NBoth.rnet (h : NBoth K w0 w p q l C c m r cl d) : ∃ fr, RNet w fr q r cl d := by obtain ⟨G, fs, fr, hG, h1, h2, h3, h4, h5, h6, h7⟩ := h; exact ⟨fr, h2⟩
theorem NBoth.netP (h : NBoth K w0 w p q l C c m r cl d) : NetP K w0 w p l C c m := by obtain ⟨G, fs, fr, hG, h1, h2, h3, h4, h5, h6, h7⟩ := h; exact ⟨G, fs, hG, h1, h4, h6, h7⟩
/-! ### The calls -/
theorem sendN (x : Pk) (A : Option Addr) (n k : Nat) (h : NBoth K w0 w p q l C c m r cl d) (hx : c.s < 8000000000000000000) (hwf : x.wf) (hs : SlB w A n x.d) (hc : n ≤ k) (hn : n ≤ tokMax) :
    Calls Try.prog 11 #[.pointer (some ⟨p, 0, none⟩), .agg #[.int .i64 x.fs, .int .i64 x.fn, .int .i64 x.ts, .int .i64 x.tn, .slice A n k]] w fun e w' => e = .returned (.bool (decide (l.length ≠ 4096))) ∧ NBoth K w0 w' p q (addL l x) C (sendC l c) m r cl d := by
  obtain ⟨G, fs, fr, rfl, h1, h2, h3, h4, h5, h6, h7⟩ := h
  refine (send_any x A n k h1 hx hwf hs hc hn).mono ?_
  rintro e w' ⟨he, fp', h', F, gr⟩
  exact ⟨he, .stepS h2 h3 h4 h5 h6 h7 rfl h' F gr⟩
theorem sendRN (x : Pk) (A : Option Addr) (n k : Nat) (h : NBoth K w0 w p q l C c m r cl d) (hx : 0 ≤ d.s ∧ d.s < 8000000000000000000) (hl4 : r.length ≤ 4096) (hwf : x.wf) (hs : SlB w A n x.d) (hc : n ≤ k) (hn : n ≤ tokMax) :
    Calls Try.prog 31 #[.pointer (some ⟨q, 0, none⟩), .agg #[.int .i64 x.fs, .int .i64 x.fn, .int .i64 x.ts, .int .i64 x.tn, .slice A n k]] w fun e w' => e = .returned (.bool (decide (r.length ≠ 4096))) ∧ NBoth K w0 w' p q l C c m (addL r x) cl (sendC r d) := by
  obtain ⟨G, fs, fr, hG, h1, h2, h3, h4, h5, h6, h7⟩ := h
  refine (refSend_any x A n k h2 hx hl4 hwf hs hc hn).mono ?_
  rintro e w' ⟨he, fp', h', F, gr⟩
  exact ⟨he, .stepR h1 h3 h4 h5 h6 h7 hG h' F gr⟩
theorem copyN (i : Int) (h : NBoth K w0 w p q l C c m r cl d) :
    Calls Try.prog 16 #[.pointer (some ⟨p, 0, none⟩), .int .i64 i] w fun e w' => e = .returned (.bool (copyB l i)) ∧ NBoth K w0 w' p q (copyL l i) C c m r cl d := by
  obtain ⟨G, fs, fr, rfl, h1, h2, h3, h4, h5, h6, h7⟩ := h
  refine (copy_any i h1).mono ?_
  rintro e w' ⟨he, fp', h', F, gr⟩
  exact ⟨he, .stepS h2 h3 h4 h5 h6 h7 rfl h' F gr⟩
theorem copyRN (i : Int) (h : NBoth K w0 w p q l C c m r cl d) (hl4 : r.length ≤ 4096) :
    Calls Try.prog 34 #[.pointer (some ⟨q, 0, none⟩), .int .i64 i] w fun e w' => e = .returned (.bool (copyB r i)) ∧ NBoth K w0 w' p q l C c m (copyL r i) cl d := by
  obtain ⟨G, fs, fr, hG, h1, h2, h3, h4, h5, h6, h7⟩ := h
  refine (refCopy_any i h2 hl4).mono ?_
  rintro e w' ⟨he, fp', h', F, gr⟩
  exact ⟨he, .stepR h1 h3 h4 h5 h6 h7 hG h' F gr⟩
theorem flipN (i a : Int) (x : UInt8) (h : NBoth K w0 w p q l C c m r cl d) :
    Calls Try.prog 19 #[.pointer (some ⟨p, 0, none⟩), .int .i64 i, .int .i64 a, bV x] w fun e w' => e = .returned (.bool (flipB l i a)) ∧ NBoth K w0 w' p q (flipL l i a x) C c m r cl d := by
  obtain ⟨G, fs, fr, rfl, h1, h2, h3, h4, h5, h6, h7⟩ := h
  refine (flip_any i a x h1).mono ?_
  rintro e w' ⟨he, h', F⟩
  exact ⟨he, .stepS h2 h3 h4 h5 h6 h7 rfl h' F (Grow.refl _ _)⟩
theorem flipRN (i a : Int) (x : UInt8) (h : NBoth K w0 w p q l C c m r cl d) (hl4 : r.length ≤ 4096) :
    Calls Try.prog 35 #[.pointer (some ⟨q, 0, none⟩), .int .i64 i, .int .i64 a, bV x] w fun e w' => e = .returned (.bool (flipB r i a)) ∧ NBoth K w0 w' p q l C c m (flipL r i a x) cl d := by
  obtain ⟨G, fs, fr, hG, h1, h2, h3, h4, h5, h6, h7⟩ := h
  refine (refFlip_any i a x h2 hl4).mono ?_
  rintro e w' ⟨he, fp', h', F, gr⟩
  exact ⟨he, .stepR h1 h3 h4 h5 h6 h7 hG h' F gr⟩
theorem loseN (i : Int) (h : NBoth K w0 w p q l C c m r cl d) (hx : c.x < 8000000000000000000) :
    Calls Try.prog 18 #[.pointer (some ⟨p, 0, none⟩), .int .i64 i] w fun e w' => e = .returned (.bool (lookP l i).isSome) ∧ NBoth K w0 w' p q (loseL l i) C (loseC l i c) m r cl d := by
  obtain ⟨G, fs, fr, rfl, h1, h2, h3, h4, h5, h6, h7⟩ := h
  refine (lose_any i h1 hx).mono ?_
  rintro e w' ⟨he, h', F⟩
  exact ⟨he, .stepS h2 h3 h4 h5 h6 h7 rfl h' F (Grow.refl _ _)⟩
theorem loseRN (i : Int) (h : NBoth K w0 w p q l C c m r cl d) (hx : 0 ≤ d.x ∧ d.x < 8000000000000000000) (hl4 : r.length ≤ 4096) :
    Calls Try.prog 33 #[.pointer (some ⟨q, 0, none⟩), .int .i64 i] w fun e w' => e = .returned (.bool (lookP r i).isSome) ∧ NBoth K w0 w' p q l C c m (loseL r i) cl (loseC r i d) := by
  obtain ⟨G, fs, fr, hG, h1, h2, h3, h4, h5, h6, h7⟩ := h
  refine (refLose_any i h2 hx hl4).mono ?_
  rintro e w' ⟨he, fp', h', F, gr⟩
  exact ⟨he, .stepR h1 h3 h4 h5 h6 h7 hG h' F gr⟩
/-- What is taken is new memory: it may be kept. -/
theorem takeN (i : Int) (h : NBoth K w0 w p q l C c m r cl d) (hx : c.x < 8000000000000000000) (hx2 : c.t < 8000000000000000000) :
    Calls Try.prog 12 #[.pointer (some ⟨p, 0, none⟩), .int .i64 i] w fun e w' => ∃ A n k, e = .returned (.tuple #[.agg #[.int .i64 (takeP C l i).fs, .int .i64 (takeP C l i).fn, .int .i64 (takeP C l i).ts, .int .i64 (takeP C l i).tn, .slice A n k], .bool (takeB C l i)]) ∧
      SlB w' A n (takeP C l i).d ∧ (∀ b off s, 0 < n * 1 → A = some ⟨b, off, s⟩ → w.heap.size ≤ b ∧ b < w'.heap.size) ∧ Fr (fun b => ¬ K b) w0 w' ∧ NBoth (fun b => K b ∨ w.heap.size ≤ b ∧ b < w'.heap.size) w' w' p q (loseL l i) C (takeC C l i c) m r cl d := by
  obtain ⟨G, fs, fr, rfl, h1, h2, h3, h4, h5, h6, h7⟩ := h
  refine (take_any i h1 hx hx2).mono ?_
  rintro e w' ⟨A, n, k, he, hs, hn, hn2, ho, h', F⟩
  obtain ⟨G', fs', fr', q0, q1, q2, q3, q4, q5, q6, q7⟩ := NBoth.stepS (K := K) (w0 := w0) h2 h3 h4 h5 h6 h7 rfl h' F (Grow.refl _ _)
  refine ⟨A, n, k, he, hs, fun b off s _ e => ho.lt b (by rw [e]; rfl), q6, G, fs, fr, rfl, h', h2.kept (F.kept fun i hi hi' => h3 i hi' hi) F.size, h3, fun b hb hh => hh.elim (h4 b hb) (fun hh => by have := h1.lt b hb; omega), fun b hb hh => hh.elim (h5 b hb) (fun hh => by have := h2.lt b hb; omega), Fr.refl _ _, fun b hb => hb.elim (fun hb => ?_) (fun hb => hb.2)⟩
  have := h7 b hb
  have := h6.size
  have := F.size
  omega
theorem takeRN (i : Int) (hC : Par cl C) (h : NBoth K w0 w p q l' C' c' m' r cl d) (hx : 0 ≤ d.x ∧ d.x < 8000000000000000000) (ht : 0 ≤ d.t ∧ d.t < 8000000000000000000) (hl4 : r.length ≤ 4096) :
    Calls Try.prog 32 #[.pointer (some ⟨q, 0, none⟩), .int .i64 i] w fun e w' => ∃ A n k, e = .returned (.tuple #[.agg #[.int .i64 (takeP C r i).fs, .int .i64 (takeP C r i).fn, .int .i64 (takeP C r i).ts, .int .i64 (takeP C r i).tn, .slice A n k], .bool (takeB C r i)]) ∧
      SlB w' A n (takeP C r i).d ∧ NBoth K w0 w' p q l' C' c' m' (loseL r i) cl (takeC C r i d) := by
  obtain ⟨G, fs, fr, hG, h1, h2, h3, h4, h5, h6, h7⟩ := h
  refine (refTake_any i C hC h2 hx ht hl4).mono ?_
  rintro e w' ⟨A, n, k, he, hs, fp', h', F, gr⟩
  exact ⟨A, n, k, he, hs, .stepR h1 h3 h4 h5 h6 h7 hG h' F gr⟩
theorem lookN (i : Int) (h : NBoth K w0 w p q l C c m r cl d) :
    Calls Try.prog 15 #[.pointer (some ⟨p, 0, none⟩), .int .i64 i] w (NewPkB w ((lookP l i).getD zeroPk) (lookP l i).isSome) := lookPP i h.netP
theorem lookRN (i : Int) (h : NBoth K w0 w p q l C c m r cl d) :
    Calls Try.prog 37 #[.pointer (some ⟨q, 0, none⟩), .int .i64 i] w fun e w' => ∃ A n k, e = .returned (.tuple #[.agg #[.int .i64 ((lookP r i).getD zeroPk).fs, .int .i64 ((lookP r i).getD zeroPk).fn, .int .i64 ((lookP r i).getD zeroPk).ts, .int .i64 ((lookP r i).getD zeroPk).tn, .slice A n k], .bool (lookP r i).isSome]) ∧
      SlB w' A n ((lookP r i).getD zeroPk).d ∧ Below w.heap.size w w' := by
  obtain ⟨fr, h2⟩ := h.rnet
  refine (refLook_any i h2).mono ?_
  rintro e w' ⟨A, n, k, he, hd, hb⟩
  exact ⟨A, n, k, he, hd.1.1, hb⟩
theorem partN (as_ an bs bn : Int) (cut : Bool) (h : NBoth K w0 w p q l C c m r cl d) (hw : (pairK as_ an bs bn).wf) (hm : m < maxLen) :
    Calls Try.prog 20 #[.pointer (some ⟨p, 0, none⟩), .agg #[.int .i64 as_, .int .i64 an], .agg #[.int .i64 bs, .int .i64 bn], .bool cut] w fun e w' => e = .returned (.tuple #[]) ∧ ∃ m', m' ≤ m + 1 ∧ NBoth K w0 w' p q l (partC C (pairK as_ an bs bn) (cut && !decide (as_ = bs ∧ an = bn))) c m' r cl d := by
  obtain ⟨G, fs, fr, rfl, h1, h2, h3, h4, h5, h6, h7⟩ := h
  cases cut
  · refine (part_off as_ an bs bn h1 hw).mono ?_
    rintro e w' ⟨he, m', hm', h', F⟩
    exact ⟨he, m', hm', .stepS h2 h3 h4 h5 h6 h7 rfl h' F (Grow.refl _ _)⟩
  · refine (part_on as_ an bs bn h1 hw hm).mono ?_
    rintro e w' ⟨he, m', hm', h', F⟩
    exact ⟨he, m', hm', .stepS h2 h3 h4 h5 h6 h7 rfl h' F (Grow.refl _ _)⟩
theorem partRN (as_ an bs bn : Int) (cut : Bool) (h : NBoth K w0 w p q l C c m r cl d) (hcl : cl.length ≤ 2000000000000) :
    Calls Try.prog 36 #[.pointer (some ⟨q, 0, none⟩), .agg #[.int .i64 as_, .int .i64 an], .agg #[.int .i64 bs, .int .i64 bn], .bool cut] w fun e w' => e = .returned (.tuple #[]) ∧ NBoth K w0 w' p q l C c m r (partL cl as_ an bs bn cut) d := by
  obtain ⟨G, fs, fr, hG, h1, h2, h3, h4, h5, h6, h7⟩ := h
  refine (refPart_any as_ an bs bn cut h2 hcl).mono ?_
  rintro e w' ⟨he, fp', h', F, gr⟩
  exact ⟨he, .stepR h1 h3 h4 h5 h6 h7 hG h' F gr⟩
end
/-- Both at the start. -/
theorem bothN {w w1 : World} {p : Nat} (h : NetP (fun b => b < w.heap.size) w w1 p [] (fun _ => false) ⟨0, 0, 0⟩ 0) :
    NBoth (fun b => b < w.heap.size) w (w1.alloc (.cells #[.slice none 0 0, .slice none 0 0, .int .i64 0, .int .i64 0, .int .i64 0] 51)) p w1.heap.size [] (fun _ => false) ⟨0, 0, 0⟩ 0 [] [] ⟨0, 0, 0⟩ := by
  obtain ⟨G, fs, hG, h1, h2, h3, h4⟩ := h
  have bA : Below w1.heap.size w1 (w1.alloc (.cells #[.slice none 0 0, .slice none 0 0, .int .i64 0, .int .i64 0, .int .i64 0] 51)) := (Below.refl _ _).alloc (Nat.le_refl _) _
  refine ⟨G, fs, fun b => b = w1.heap.size, hG, h1.below bA, ⟨rfl, ⟨.slice none 0 0, .slice none 0 0, [], heap_alloc_new w1 _, World.ownsRow_nil _ _ _ _, (fun g hg => by cases hg), rfl, (fun y hy => by cases hy), World.ownsRow_nil _ _ _ _, (fun g hg => by cases hg)⟩, fun b hb => by rw [hb]; simp⟩, fun b hb hb' => by have := h1.lt b hb; rw [hb'] at this; omega, h2, fun b hb hk => by have := h3.size; rw [hb] at hk; omega, h3.trans (Fr.of_below bA (fp := fun _ => False)) (fun _ h => h.elim), h4⟩
end Go.Proofs.Ytcdbpimpmhfkhaa
