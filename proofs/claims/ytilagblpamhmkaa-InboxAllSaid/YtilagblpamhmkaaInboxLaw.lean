/-
  The inbox in a law: writes that came in, a vector beside it.
-/
import Derived.Test.YtilagblpamhmkaaInboxP
import Derived.Test.YtilagblpamhmkaaMC
import Derived.Test.YtilagblpamhmkaaVectJoin
namespace Go.Proofs.Ytilagblpamhmkaa
open Go.RowKit
set_option linter.unusedVariables false

abbrev farSh : Sh := .pair (.int .i64) (.pair (.int .i64) (.pair (.pair .str (.sl 64 vrSh)) (.sl 8 (.int .i64))))
def faOf (x : farSh.T) : Fa := ⟨x.1, x.2.1, ⟨x.2.2.1.1, x.2.2.1.2.map vrOf⟩, x.2.2.2⟩
/-- A write by value that came in. -/
structure FaV (w : World) (f : Fa) (A : Option Addr) (n c : Nat) (A2 : Option Addr) (n2 c2 : Nat) : Prop where
  rc : RRow w f.rc A n c
  ro : Sl w A2 n2 1 (f.route.map (Value.int .i64))
  cap : n2 ≤ c2
  len : n2 * 8 ≤ 140737488351232
theorem FaV.below {w w' : World} {f : Fa} {A A2 : Option Addr} {n c n2 c2 : Nat} (h : FaV w f A n c A2 n2 c2) (b : Below w.heap.size w w') : FaV w' f A n c A2 n2 c2 := ⟨h.rc.below b, h.ro.below b, h.cap, h.len⟩
theorem fa_open {w : World} {cs : List Value} {x : farSh.T} (h : Rd w farSh cs x) :
    ∃ (A : Option Addr) (n c : Nat) (A2 : Option Addr) (n2 c2 : Nat), cs = fV1 (faOf x, (A, n, c), (A2, n2, c2)) ∧ FaV w (faOf x) A n c A2 n2 c2 ∧ (∀ z ∈ x.2.2.2, (Lit.int .i64 z).wf = true) ∧ ((Lit.int .i64 x.1).wf = true ∧ (Lit.int .i64 x.2.1).wf = true) := by
  obtain ⟨src, seq, ⟨key, vers⟩, route⟩ := x
  obtain ⟨_, _, rfl, ⟨rfl, w1⟩, _, _, rfl, ⟨rfl, w2⟩, _, _, rfl, ⟨_, _, rfl, ⟨rfl, hk⟩, hv⟩, hr⟩ := h
  obtain ⟨A, n, c, rfl, -⟩ := _root_.id hv
  obtain ⟨A2, n2, c2, rfl, -⟩ := _root_.id hr
  obtain ⟨s1, s2, s3⟩ := Rd.vers hv
  obtain ⟨t1, t2, t3⟩ := Rd.ints hr
  refine ⟨A, n, c, A2, n2, c2, rfl, ⟨⟨s1, s2, by omega, hk⟩, t1, t2, by omega⟩, ?_, w1, w2⟩
  obtain ⟨h4, _, _, _, h5⟩ := hr.elem
  intro z hz
  obtain ⟨i, hi, rfl⟩ := List.getElem_of_mem hz
  obtain ⟨g, off, y, xs, _, hy, _, _, _, hw⟩ := h5 i (by have h4' : route.length = n2 := h4; have hi' : i < route.length := hi; omega)
  rw [List.getElem?_eq_getElem hi] at hy
  injection hy with hy
  rw [hy]
  exact hw
/-- The writes of a list that came in. -/
theorem fars_open {w : World} {A : Option Addr} {n c : Nat} {ls : List farSh.T} (h : Rd w (.sl 80 farSh) [.slice A n c] ls) : (ls.map faOf).length = n ∧ n * 80 ≤ 140737488351232 ∧
    ∀ k, k < n → ∃ g off f A1 n1 c1 A2 n2 c2, A = some ⟨g, off, none⟩ ∧ (ls.map faOf)[k]? = some f ∧ (∀ j u, j < 5 → (fV1 (f, (A1, n1, c1), (A2, n2, c2)))[j]? = some u → w.cell? ⟨g, off + k * 5 + j, none⟩ = some u) ∧ FaV w f A1 n1 c1 A2 n2 c2 ∧ (∀ z ∈ f.route, (Lit.int .i64 z).wf = true) := by
  obtain ⟨h4, h1, h2, h3, h5⟩ := h.elem
  refine ⟨by rw [List.length_map]; exact h4, by omega, fun k hk => ?_⟩
  obtain ⟨g, off, x, xs, hA, hx, _, hc, hr⟩ := h5 k hk
  obtain ⟨A1, n1, c1, A2, n2, c2, rfl, hv, hw, _⟩ := fa_open hr
  exact ⟨g, off, faOf x, A1, n1, c1, A2, n2, c2, hA, by rw [List.getElem?_map, hx]; rfl, fun j u _ hu => hc j u hu, hv, hw⟩

/-- The inbox and the vector beside it; all below B as in W. -/
def OSt (W : World) (B : Nat) (p : Nat) (room : Int) (wr : World) (l : List Fa) (v : List Int) (Av : Option Addr) (nv : Nat) : Prop :=
  ∃ K w0, IP K w0 wr p room l ∧ (∀ b, b < B → K b) ∧ B ≤ w0.heap.size ∧ Below B W w0 ∧ SlI w0 Av nv v ∧ ∀ b off, 0 < nv * 1 → Av = some ⟨b, off, none⟩ → K b
section
variable {W wr w' : World} {B p : Nat} {room : Int} {l l' : List Fa} {v v' : List Int} {Av Av' : Option Addr} {nv nv' cv' : Nat}
theorem OSt.sl (h : OSt W B p room wr l v Av nv) : SlI wr Av nv v := by
  obtain ⟨K, w0, h1, h2, h3, h4, h5, h6⟩ := h
  exact h1.sl h5 h6
theorem OSt.below_ (h : OSt W B p room wr l v Av nv) : Below B W wr := by
  obtain ⟨K, w0, h1, h2, h3, h4, h5, h6⟩ := h
  exact h1.outer h4 h2 h3
theorem OSt.grow (h : OSt W B p room wr l v Av nv) (b : Below wr.heap.size wr w') : OSt W B p room w' l v Av nv := by
  obtain ⟨K, w0, h1, h2, h3, h4, h5, h6⟩ := h
  exact ⟨K, w0, h1.below b, h2, h3, h4, h5, h6⟩
/-- A vector that was made since. -/
theorem OSt.newv (h : OSt W B p room wr l v Av nv) (hB : B ≤ W.heap.size) (b : Below wr.heap.size wr w') (o : w'.ownsRow wr.heap.size 2 1 (.slice Av' nv' cv') nv' (v'.map (Value.int .i64))) : OSt W B p room w' l v' Av' nv' := by
  have hb := h.below_
  obtain ⟨K, w0, h1, h2, h3, h4, h5, h6⟩ := h
  have h7 := h1.fr.size
  have hs : SlI w' Av' nv' v' := Sl.of_own o
  have hbs := b.size
  refine ⟨fun i => K i ∨ wr.heap.size ≤ i ∧ i < w'.heap.size, w', h1.over b (fun i hi => hi), fun i hi => .inl (h2 i hi), by omega, hb.trans (b.mono (by omega)), hs, fun g off hn e => ?_⟩
  subst e
  have h8 := o.lt g rfl
  exact .inr h8
theorem newO (room : Nat) (W w : World) (B : Nat) (b : Below B W w) (hB : B ≤ W.heap.size) (hs : SlI w Av nv v) :
    Calls Try.prog 11 #[.int .i64 (room : Int)] w fun e w' => e = .returned (.pointer (some ⟨w.heap.size, 0, none⟩)) ∧ OSt W B w.heap.size room w' [] v Av nv := by
  refine (newP room w).mono ?_
  rintro e w' ⟨rfl, h1, b1⟩
  rw [Int.max_eq_left (Int.natCast_nonneg room)] at h1
  have := b.size
  exact ⟨rfl, _, w, h1, fun i hi => by omega, by omega, b, hs, fun g off hn e => Sl.blk_lt hs hn e⟩
theorem takeO (f : Fa) (A : Option Addr) (n c : Nat) (A2 : Option Addr) (n2 c2 : Nat) (cv : Nat) (h : OSt W B p room wr l v Av nv) (hf : FaV wr f A n c A2 n2 c2) (hnv : nv ≤ 140737488351232) (hl : (l.length + 1) * 80 ≤ 140737488355328) :
    Calls Try.prog 12 #[.pointer (some ⟨p, 0, none⟩), .agg #[.int .i64 f.src, .int .i64 f.seq, .string f.rc.key, .slice A n c, .slice A2 n2 c2], .slice Av nv cv] wr fun e w' => e = .returned (.int .i64 (takeA room l f v)) ∧ OSt W B p room w' (takeI room l f v) v Av nv := by
  have hs := h.sl
  obtain ⟨K, w0, h1, h2, h3, h4, h5, h6⟩ := h
  refine (takeP f A n c A2 n2 c2 Av nv cv v h1 hf.rc hf.ro hf.cap hf.len hs hnv hl).mono ?_
  rintro e w' ⟨rfl, h7⟩
  exact ⟨rfl, K, w0, h7, h2, h3, h4, h5, h6⟩
theorem readyO_none (cv : Nat) (h : OSt W B p room wr l v Av nv) (hnv : nv ≤ 140737488351232) (hl : l.length * 80 ≤ 140737488355328) (hr : readyI l v = none) :
    Calls Try.prog 13 #[.pointer (some ⟨p, 0, none⟩), .slice Av nv cv] wr fun e w' => e = .returned (.tuple #[.agg #[.int .i64 0, .int .i64 0, .string ⟨#[]⟩, .slice none 0 0, .slice none 0 0], .bool false]) ∧ OSt W B p room w' l v Av nv := by
  have hs := h.sl
  obtain ⟨K, w0, h1, h2, h3, h4, h5, h6⟩ := h
  refine (readyP_none Av nv cv v h1 hs hnv hl hr).mono ?_
  rintro e w' ⟨rfl, h7⟩
  exact ⟨rfl, K, w0, h7, h2, h3, h4, h5, h6⟩
theorem readyO_some (cv : Nat) (h : OSt W B p room wr l v Av nv) (hnv : nv ≤ 140737488351232) (hl : l.length * 80 ≤ 140737488355328) {k : Nat} {f : Fa} (hr : readyI l v = some k) (hf : l[k]? = some f) :
    Calls Try.prog 13 #[.pointer (some ⟨p, 0, none⟩), .slice Av nv cv] wr fun e w' => ∃ (A : Option Addr) (n c : Nat) (A2 : Option Addr) (n2 c2 : Nat), e = .returned (.tuple #[.agg #[.int .i64 f.src, .int .i64 f.seq, .string f.rc.key, .slice A n c, .slice A2 n2 c2], .bool true]) ∧ SlV w' A n f.rc.vers ∧ rightF f = true ∧ OSt W B p room w' (l.eraseIdx k) v Av nv := by
  have hs := h.sl
  obtain ⟨K, w0, h1, h2, h3, h4, h5, h6⟩ := h
  refine (readyP_some Av nv cv v h1 hs hnv hl hr hf).mono ?_
  rintro e w' ⟨A, n, c, A2, n2, c2, rfl, hd, h7⟩
  exact ⟨A, n, c, A2, n2, c2, rfl, hd.vs.slv, hd.right, K, w0, h7, h2, h3, h4, h5, h6⟩
theorem waitsO (h : OSt W B p room wr l v Av nv) (hl : l.length * 80 ≤ 140737488355328) : Calls Try.prog 17 #[.pointer (some ⟨p, 0, none⟩)] wr (NewFs wr l) := by
  obtain ⟨K, w0, h1, h2, h3, h4, h5, h6⟩ := h
  exact waitsP h1 hl
end
theorem ver_at5 {w : World} {A : Option Addr} {n : Nat} {f : Fa} (h : SlV w A n f.rc.vers) (h1 : f.rc.vers.length = 1) :
    ∃ b off A2 n2 c2, A = some ⟨b, off, none⟩ ∧ n = 1 ∧ VRow w f.ver A2 n2 c2 ∧ w.cell? ⟨b, off, none⟩ = some (.int .i64 f.ver.s) ∧ w.cell? ⟨b, off + 1, none⟩ = some (.int .i64 f.ver.n) ∧ w.cell? ⟨b, off + 2, none⟩ = some (.slice A2 n2 c2) ∧ w.cell? ⟨b, off + 3, none⟩ = some (.bool f.ver.gone) ∧ w.cell? ⟨b, off + 4, none⟩ = some (.string f.ver.val) := by
  have hl := h.len
  obtain ⟨b, off, v, Ap, np, cp, rfl, hv, hr, c0, c1, c2, c3, c4⟩ := h.at_ (k := 0) (by omega)
  have e : f.ver = v := by
    unfold Fa.ver
    rw [List.headD_eq_head?_getD, List.head?_eq_getElem?, hv]
    rfl
  rw [← e] at hr c0 c1 c3 c4
  simp only [Nat.zero_mul, Nat.add_zero] at c0 c1 c2 c3 c4
  exact ⟨b, off, Ap, np, cp, rfl, by omega, hr, c0, c1, c2, c3, c4⟩
/-! ### In plain Lean -/
theorem may_true {v : List Int} {f : Fa} (h : mayB v f = true) : nextOf v f.ver.s = (f.ver.s, f.ver.n, 0) ∧ holdsB v f.ver.past = true := by
  unfold mayB at h
  simp only [Bool.and_eq_true, decide_eq_true_eq] at h
  obtain ⟨h1, ⟨h2, h3⟩, h4⟩ := h
  exact ⟨by rw [← h1]; exact Prod.ext h2 (Prod.ext h3 rfl), h4⟩
theorem next_pos {v : List Int} {s n : Int} (h : nextOf v s = (s, n, 0)) : rightB v = true ∧ 1 ≤ s ∧ s ≤ (v.length : Int) ∧ n = v.getD (s.toNat - 1) 0 + 1 := by
  unfold nextOf at h
  split at h
  · simp at h
  · rename_i h1
    split at h
    · simp at h
    · refine ⟨?_, by omega, by omega, (congrArg (fun t => t.2.1) h).symm⟩
      cases hr : rightB v
      · exact absurd (.inl hr) h1
      · rfl
theorem next_ncov {v : List Int} {s n : Int} (h : nextOf v s = (s, n, 0)) : coversB v s n = false := by
  obtain ⟨_, _, _, h4⟩ := next_pos h
  unfold coversB
  rw [decide_eq_false (show ¬ n ≤ v.getD (s.toNat - 1) 0 by omega)]
  simp
theorem takeI_len (room : Int) (l : List Fa) (f : Fa) (v : List Int) : (takeI room l f v).length ≤ l.length + 1 := by
  unfold takeI
  split
  · simp
  · omega
theorem readyI_lt {l : List Fa} {v : List Int} {k : Nat} (h : readyI l v = some k) : ∃ f, l[k]? = some f ∧ mayB v f = true ∧ k < l.length := by
  unfold readyI at h
  obtain ⟨h1, h2, _⟩ := List.findIdx?_eq_some_iff_getElem.1 h
  exact ⟨l[k], List.getElem?_eq_getElem h1, h2, h1⟩
theorem readyI_none {l : List Fa} {v : List Int} (h : readyI l v = none) : ∀ f ∈ l, mayB v f = false := by
  unfold readyI at h
  intro f hf
  simpa using List.findIdx?_eq_none_iff.1 h f hf
end Go.Proofs.Ytilagblpamhmkaa
