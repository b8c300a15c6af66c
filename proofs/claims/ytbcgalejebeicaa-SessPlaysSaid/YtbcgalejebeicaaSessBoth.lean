/-
  The program's sessions and the document's, side by side.
-/
import Derived.Test.YtbcgalejebeicaaSessNew
import Derived.Test.YtbcgalejebeicaaSessRefOpen
import Derived.Test.YtbcgalejebeicaaSessLost
import Derived.Test.YtbcgalejebeicaaSessRefLost
namespace Go.Proofs.Ytbcgalejebeicaa
open Go.RowKit
set_option linter.unusedVariables false

/-- Both of them, apart; what is in K is as it was in w0. -/
def Both (K : Nat → Prop) (w0 w : World) (p q : Nat) (sites : Int) (l r : List Ses) (m : Nat) : Prop :=
  ∃ G fs fr, G.p = p ∧ SessG w fs G sites l m ∧ RefG w fr q sites r ∧ (∀ b, fs b → ¬ fr b) ∧ (∀ b, fs b → ¬ K b) ∧ (∀ b, fr b → ¬ K b) ∧ Fr (fun b => ¬ K b) w0 w ∧ ∀ b, K b → b < w0.heap.size
section
variable {K : Nat → Prop} {w0 w w' : World} {p q m : Nat} {sites : Int} {l l' r r' : List Ses} {m' : Nat}
theorem Both.stepS {G' : SGeo} {fs fr fs' : Nat → Prop} (hr : RefG w fr q sites r) (hd : ∀ b, fs b → ¬ fr b) (hs : ∀ b, fs b → ¬ K b) (hk : ∀ b, fr b → ¬ K b) (hF : Fr (fun b => ¬ K b) w0 w) (hK : ∀ b, K b → b < w0.heap.size)
    (hG : G'.p = p) (h' : SessG w' fs' G' sites l' m') (F : Fr fs w w') (gr : Grow w fs fs') : Both K w0 w' p q sites l' r m' :=
  ⟨G', fs', fr, hG, h', hr.kept (F.kept fun i hi hi' => hd i hi' hi) F.size, fun b hb hb' => (gr b hb).elim (fun h => hd b h hb') (fun h => by have := hr.lt b hb'; omega),
    fun b hb hKb => (gr b hb).elim (fun h => hs b h hKb) (fun h => by have := hK b hKb; have := hF.size; omega), hk, hF.trans F (fun i hi => .inl (hs i hi)), hK⟩
theorem Both.stepR {G : SGeo} {fs fr fr' : Nat → Prop} (hS : SessG w fs G sites l m) (hd : ∀ b, fs b → ¬ fr b) (hs : ∀ b, fs b → ¬ K b) (hk : ∀ b, fr b → ¬ K b) (hF : Fr (fun b => ¬ K b) w0 w) (hK : ∀ b, K b → b < w0.heap.size)
    (hG : G.p = p) (h' : RefG w' fr' q sites r') (F : Fr fr w w') (gr : Grow w fr fr') : Both K w0 w' p q sites l r' m :=
  ⟨G, fs, fr', hG, hS.kept (F.kept fun i hi hi' => hd i hi hi') F.size, h', fun b hb hb' => (gr b hb').elim (fun h => hd b hb h) (fun h => by have := hS.lt b hb; omega),
    hs, fun b hb hKb => (gr b hb).elim (fun h => hk b h hKb) (fun h => by have := hK b hKb; have := hF.size; omega), hF.trans F (fun i hi => .inl (hk i hi)), hK⟩
theorem Both.below (h : Both K w0 w p q sites l r m) (hb : Below w.heap.size w w') : Both K w0 w' p q sites l r m := by
  obtain ⟨G, fs, fr, hG, h1, h2, h3, h4, h5, h6, h7⟩ := h
  exact ⟨G, fs, fr, hG, h1.below hb, h2.below hb, h3, h4, h5, h6.trans (Fr.of_below hb (fp := fun _ => False)) (fun _ h => h.elim), h7⟩
theorem Both.fr (h : Both K w0 w p q sites l r m) : Fr (fun b => ¬ K b) w0 w := by obtain ⟨G, fs, fr, hG, h1, h2, h3, h4, h5, h6, h7⟩ := h; exact h6
/-- More is kept: a row that is none of the two's. -/
theorem Both.keep (h : Both K w0 w p q sites l r m) : Both K w w p q sites l r m := by
  obtain ⟨G, fs, fr, hG, h1, h2, h3, h4, h5, h6, h7⟩ := h
  exact ⟨G, fs, fr, hG, h1, h2, h3, h4, h5, Fr.refl _ _, fun b hb => Nat.lt_of_lt_of_le (h7 b hb) h6.size⟩
theorem Both.back {K2 : Nat → Prop} {w1 wb : World} (h : Both K2 wb w' p q sites l r m) (F : Fr (fun b => ¬ K b) w1 wb) (hK : ∀ b, K b → K2 b) (hl : ∀ b, K b → b < w1.heap.size) : Both K w1 w' p q sites l r m := by
  obtain ⟨G, fs, fr, hG, h1, h2, h3, h4, h5, h6, h7⟩ := h
  exact ⟨G, fs, fr, hG, h1, h2, h3, fun b hb hk => h4 b hb (hK b hk), fun b hb hk => h5 b hb (hK b hk), F.trans h6 (fun i hi => .inl fun hk => hi (hK i hk)), hl⟩
theorem openB (s : Int) (h : Both K w0 w p q sites l r m) (hl : l.length ≤ 4000000000000) :
    Calls Try.prog 8 #[.pointer (some ⟨p, 0, none⟩), .int .i64 s] w fun e w' => e = .returned (.tuple #[.int .i64 (openA sites l s).1, .int .i64 (openA sites l s).2]) ∧ Both K w0 w' p q sites (openL sites l s) r m := by
  obtain ⟨G, fs, fr, rfl, h1, h2, h3, h4, h5, h6, h7⟩ := h
  refine (open_any_ s h1 hl).mono ?_
  rintro e w' ⟨he, G', fp', hG, h', F, gr⟩
  exact ⟨he, .stepS h2 h3 h4 h5 h6 h7 hG h' F gr⟩
theorem openRB (s : Int) (h : Both K w0 w p q sites l r m) (hl : r.length ≤ 3000000000000) :
    Calls Try.prog 14 #[.pointer (some ⟨q, 0, none⟩), .int .i64 s] w fun e w' => e = .returned (.tuple #[.int .i64 (openA sites r s).1, .int .i64 (openA sites r s).2]) ∧ Both K w0 w' p q sites l (openL sites r s) m := by
  obtain ⟨G, fs, fr, hG, h1, h2, h3, h4, h5, h6, h7⟩ := h
  refine (refOpen_any s h2 hl).mono ?_
  rintro e w' ⟨he, fp', h', F, gr⟩
  exact ⟨he, .stepR h1 h3 h4 h5 h6 h7 hG h' F gr⟩
/-- The token that Begin tells is new memory: it may be kept. -/
theorem beginB (n op : Int) (h : Both K w0 w p q sites l r m) (hm : m < maxLen) (hw : (Lit.int .i64 op).wf = true) :
    Calls Try.prog 9 #[.pointer (some ⟨p, 0, none⟩), .int .i64 n, .int .i64 op] w fun e w' => ∃ A k c, e = .returned (.tuple #[.int .i64 (beginA l n op).1, .slice A k c, .int .i64 (beginA l n op).2.2]) ∧
      SlB w' A k (beginA l n op).2.1 ∧ k ≤ c ∧ w'.ownsRow w.heap.size 5 1 (.slice A k c) k (bsV (beginA l n op).2.1) ∧ Fr (fun b => ¬ K b) w0 w' ∧ Both (fun b => K b ∨ w.heap.size ≤ b ∧ b < w'.heap.size) w' w' p q sites (beginL l n op) r (m + 1) := by
  obtain ⟨G, fs, fr, rfl, h1, h2, h3, h4, h5, h6, h7⟩ := h
  refine (begin_any n op h1 hm hw).mono ?_
  rintro e w' ⟨A, k, c, he, hs, hc, ho, h', F⟩
  obtain ⟨G', fs', fr', q0, q1, q2, q3, q4, q5, q6, q7⟩ := Both.stepS (K := K) (w0 := w0) h2 h3 h4 h5 h6 h7 rfl h' F (Grow.refl _ _)
  refine ⟨A, k, c, he, hs, hc, ho, q6, G, fs, fr, rfl, h', h2.kept (F.kept fun i hi hi' => h3 i hi' hi) F.size, h3, fun b hb hh => hh.elim (h4 b hb) (fun hh => by have := h1.lt b hb; omega), fun b hb hh => hh.elim (h5 b hb) (fun hh => by have := h2.lt b hb; omega), Fr.refl _ _, fun b hb => hb.elim (fun hb => ?_) (fun hb => hb.2)⟩
  have := h7 b hb
  have := h6.size
  have := F.size
  omega
theorem beginRB (n op : Int) (h : Both K w0 w p q sites l r m) :
    Calls Try.prog 15 #[.pointer (some ⟨q, 0, none⟩), .int .i64 n, .int .i64 op] w fun e w' => ∃ A k c, e = .returned (.tuple #[.int .i64 (beginA r n op).1, .slice A k c, .int .i64 (beginA r n op).2.2]) ∧
      SlB w' A k (beginA r n op).2.1 ∧ k ≤ c ∧ Both K w0 w' p q sites l (beginL r n op) m := by
  obtain ⟨G, fs, fr, hG, h1, h2, h3, h4, h5, h6, h7⟩ := h
  refine (refBegin_any n op h2).mono ?_
  rintro e w' ⟨A, k, c, he, hs, hc, h', F⟩
  exact ⟨A, k, c, he, hs, hc, .stepR h1 h3 h4 h5 h6 h7 hG h' F (Grow.refl _ _)⟩
theorem endB (op : Int) (At : Option Addr) (nt ct : Nat) (tok : List UInt8) (h : Both K w0 w p q sites l r m) (hw : (Lit.int .i64 op).wf = true) (ht : SlB w At nt tok) (hnt : nt ≤ 140737488351232) (hct : nt ≤ ct) (hta : ∀ b off s, 0 < nt → At = some ⟨b, off, s⟩ → K b) :
    Calls Try.prog 10 #[.pointer (some ⟨p, 0, none⟩), .int .i64 op, .slice At nt ct] w fun e w' => e = .returned (.tuple #[.int .i64 (findS l op : Int), .bool (decide (0 < findS l op))]) ∧ Both K w0 w' p q sites (endL l op tok) r m := by
  obtain ⟨G, fs, fr, rfl, h1, h2, h3, h4, h5, h6, h7⟩ := h
  refine (end_any op At nt ct tok h1 hw ht hnt hct (fun b off s hn e hb => h4 b hb (hta b off s hn e))).mono ?_
  rintro e w' ⟨he, fp', h', F, gr⟩
  exact ⟨he, .stepS h2 h3 h4 h5 h6 h7 rfl h' F gr⟩
theorem endRB (op : Int) (At : Option Addr) (nt ct : Nat) (tok : List UInt8) (h : Both K w0 w p q sites l r m) (ht : SlB w At nt tok) (hnt : nt ≤ 140737488351232) (hct : nt ≤ ct) (hta : ∀ b off s, 0 < nt → At = some ⟨b, off, s⟩ → K b) :
    Calls Try.prog 16 #[.pointer (some ⟨q, 0, none⟩), .int .i64 op, .slice At nt ct] w fun e w' => e = .returned (.tuple #[.int .i64 (findS r op : Int), .bool (decide (0 < findS r op))]) ∧ Both K w0 w' p q sites l (endL r op tok) m := by
  obtain ⟨G, fs, fr, hG, h1, h2, h3, h4, h5, h6, h7⟩ := h
  refine (refEnd_any op At nt ct tok h2 ht hnt hct (fun b off s hn e hb => h5 b hb (hta b off s hn e))).mono ?_
  rintro e w' ⟨he, fp', h', F, gr⟩
  exact ⟨he, .stepR h1 h3 h4 h5 h6 h7 hG h' F gr⟩
theorem goB (n s : Int) (h : Both K w0 w p q sites l r m) :
    Calls Try.prog 12 #[.pointer (some ⟨p, 0, none⟩), .int .i64 n, .int .i64 s] w fun e w' => e = .returned (.int .i64 (goA sites l n s)) ∧ Both K w0 w' p q sites (goL sites l n s) r m := by
  obtain ⟨G, fs, fr, rfl, h1, h2, h3, h4, h5, h6, h7⟩ := h
  refine (goM_any n s h1).mono ?_
  rintro e w' ⟨he, fp', h', F, gr⟩
  exact ⟨he, .stepS h2 h3 h4 h5 h6 h7 rfl h' F gr⟩
theorem goRB (n s : Int) (h : Both K w0 w p q sites l r m) :
    Calls Try.prog 17 #[.pointer (some ⟨q, 0, none⟩), .int .i64 n, .int .i64 s] w fun e w' => e = .returned (.int .i64 (goA sites r n s)) ∧ Both K w0 w' p q sites l (goL sites r n s) m := by
  obtain ⟨G, fs, fr, hG, h1, h2, h3, h4, h5, h6, h7⟩ := h
  refine (refGo_any n s h2).mono ?_
  rintro e w' ⟨he, fp', h', F, gr⟩
  exact ⟨he, .stepR h1 h3 h4 h5 h6 h7 hG h' F gr⟩
/-- What Lost answers is new memory: it may be kept. -/
theorem lostB (s : Int) (h : Both K w0 w p q sites l r m) (hl : l.length ≤ 3000000000000) :
    Calls Try.prog 19 #[.pointer (some ⟨p, 0, none⟩), .int .i64 s] w fun e w' => ∃ A n c, e = .returned (.slice A n c) ∧ Sl w' A n 1 ((lostA l s).map (Value.int .i64)) ∧ n ≤ maxLen ∧ w'.ownsRow w.heap.size 2 1 (.slice A n c) n ((lostA l s).map (Value.int .i64)) ∧
      Fr (fun b => ¬ K b) w0 w' ∧ ∃ K2 : Nat → Prop, (∀ b, K b → K2 b) ∧ (∀ g, (Value.slice A n c).ownBlock = some g → K2 g) ∧ Both K2 w' w' p q sites (lostL l s) r m := by
  obtain ⟨G, fs, fr, rfl, h1, h2, h3, h4, h5, h6, h7⟩ := h
  refine (lost_any s h1 hl).mono ?_
  rintro e w' ⟨A, n, c, fs', he, ho, h', F, gr, hno⟩
  have q2 := h2.kept (F.kept fun i hi hi' => h3 i hi' hi) F.size
  obtain ⟨A', c', he', _, hm⟩ := own_slice ho
  refine ⟨A, n, c, he, Sl.of_own ho, by omega, ho, h6.trans F (fun i hi => .inl (h4 i hi)), fun b => K b ∨ (Value.slice A n c).ownBlock = some b, fun b hb => .inl hb, fun g hg => .inr hg, G, fs', fr, rfl, h', q2, ?_, ?_, ?_, Fr.refl _ _, ?_⟩
  · exact fun b hb hb' => (gr b hb).elim (fun h => h3 b h hb') (fun h => by have := h2.lt b hb'; omega)
  · rintro b hb (hK | hg)
    · exact (gr b hb).elim (fun h => h4 b h hK) (fun h => by have := h7 b hK; have := h6.size; omega)
    · exact hno b hg hb
  · rintro b hb (hK | hg)
    · exact h5 b hb hK
    · have := (ho.lt b hg).1
      have := h2.lt b hb
      omega
  · rintro b (hK | hg)
    · have := h7 b hK
      have := h6.size
      have := F.size
      omega
    · exact (ho.lt b hg).2
theorem lostRB (s : Int) (h : Both K w0 w p q sites l r m) (hl : r.length ≤ 3000000000000) :
    Calls Try.prog 20 #[.pointer (some ⟨q, 0, none⟩), .int .i64 s] w fun e w' => ∃ A n c, e = .returned (.slice A n c) ∧ Sl w' A n 1 ((lostA r s).map (Value.int .i64)) ∧ Both K w0 w' p q sites l (lostL r s) m := by
  obtain ⟨G, fs, fr, hG, h1, h2, h3, h4, h5, h6, h7⟩ := h
  refine (refLost_any s h2 hl).mono ?_
  rintro e w' ⟨A, n, c, fr', he, ho, h', F, gr, hno⟩
  exact ⟨A, n, c, he, Sl.of_own ho, .stepR h1 h3 h4 h5 h6 h7 hG h' F gr⟩
theorem siteB (n : Int) (h : Both K w0 w p q sites l r m) :
    Calls Try.prog 13 #[.pointer (some ⟨p, 0, none⟩), .int .i64 n] w fun e w' => e = .returned (.int .i64 (siteS l n)) ∧ w = w' := by
  obtain ⟨G, fs, fr, rfl, h1, h2, h3, h4, h5, h6, h7⟩ := h
  exact site_any n h1
theorem tokenB (n : Int) (h : Both K w0 w p q sites l r m) :
    Calls Try.prog 11 #[.pointer (some ⟨p, 0, none⟩), .int .i64 n] w (NewB w (tokS l n)) := by
  obtain ⟨G, fs, fr, rfl, h1, h2, h3, h4, h5, h6, h7⟩ := h
  exact token_any n h1
theorem lenB (h : Both K w0 w p q sites l r m) :
    Calls Try.prog 21 #[.pointer (some ⟨p, 0, none⟩)] w fun e w' => e = .returned (.int .i64 (l.length : Int)) ∧ w = w' := by
  obtain ⟨G, fs, fr, rfl, h1, h2, h3, h4, h5, h6, h7⟩ := h
  exact len_any h1
theorem tokenB_none (n : Int) (h : Both K w0 w p q sites l r m) (hn : getS l n = none) :
    Calls Try.prog 11 #[.pointer (some ⟨p, 0, none⟩), .int .i64 n] w fun e w' => e = .returned (.slice none 0 0) ∧ w = w' := by
  obtain ⟨G, fs, fr, rfl, h1, h2, h3, h4, h5, h6, h7⟩ := h
  rcases getS_cases l n with ⟨hs, hq⟩ | ⟨k, x, rfl, hk, hkl, hx, hs⟩
  · have C := Lib.hid (get_none n h1 hq)
    clear h1 h2 h3 h4 h5 h6 h7 hn hs hq
    go_enter Try.func11, Try.ntmps11
    go_wp2_with fail
    refine C.out.mono ?_
    rintro e w' ⟨rfl, rfl⟩
    go_wp2
    go_ret
    exact ⟨rfl, rfl⟩
  · rw [hn] at hs; cases hs
/-- From here on more is kept. -/
theorem Both.over {K2 : Nat → Prop} {w1 : World} (h : Both K w0 w p q sites l r m) (hb : Below w.heap.size w w1) (hK : ∀ b, K2 b → K b ∨ w.heap.size ≤ b ∧ b < w1.heap.size) : Both K2 w1 w1 p q sites l r m := by
  obtain ⟨G, fs, fr, hG, h1, h2, h3, h4, h5, h6, h7⟩ := h
  refine ⟨G, fs, fr, hG, h1.below hb, h2.below hb, h3, fun b hb' hk => (hK b hk).elim (h4 b hb') (fun hh => by have := h1.lt b hb'; omega), fun b hb' hk => (hK b hk).elim (h5 b hb') (fun hh => by have := h2.lt b hb'; omega), Fr.refl _ _, fun b hk => (hK b hk).elim (fun hk => ?_) (fun hh => hh.2)⟩
  have := h7 b hk
  have := h6.size
  have := hb.size
  omega
/-- A cell that is kept. -/
theorem Fr.cellK {w w' : World} {K : Nat → Prop} {a : Addr} {v : Value} (F : Fr (fun b => ¬ K b) w w') (hK : K a.block) (h : w.cell? a = some v) : w'.cell? a = some v := by
  rw [World.cell?_of_block (w := w) (F.block _ (World.block_lt_of_cell? w a h) (fun hh => hh hK))]; exact h
theorem Both.rlen (h : Both K w0 w p q sites l r m) : ∃ A c, w.cell? ⟨q, 1, none⟩ = some (.slice A r.length c) ∧ r.length ≤ maxLen := by
  obtain ⟨G, fs, fr, rfl, h1, h2, h3, h4, h5, h6, h7⟩ := h
  exact h2.len_
theorem Both.rat (h : Both K w0 w p q sites l r m) {k : Nat} {x : Ses} (hx : r[k]? = some x) :
    ∃ (g off c : Nat) (A : Option Addr) (n cc : Nat), w.cell? ⟨q, 1, none⟩ = some (.slice (some ⟨g, off, none⟩) r.length c) ∧ w.cell? ⟨g, off + k * 3, none⟩ = some (.int .i64 x.site) ∧ w.cell? ⟨g, off + k * 3 + 1, none⟩ = some (.slice A n cc) ∧
      SlB w A n x.tok ∧ n ≤ cc := by
  obtain ⟨G, fs, fr, rfl, h1, h2, h3, h4, h5, h6, h7⟩ := h
  obtain ⟨g, off, c, A, n, cc, _, a1, a2, a3, _, _, a4, a5, _⟩ := h2.at_ hx
  exact ⟨g, off, c, A, n, cc, a1, a2, a3, a4.1, a5⟩
end
end Go.Proofs.Ytbcgalejebeicaa
