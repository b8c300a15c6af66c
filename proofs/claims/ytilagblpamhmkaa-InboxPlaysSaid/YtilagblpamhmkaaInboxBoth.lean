/-
  The program's inbox and the document's, side by side.
-/
import Derived.Test.YtilagblpamhmkaaInboxRefClean
import Derived.Test.YtilagblpamhmkaaInboxLists
namespace Go.Proofs.Ytilagblpamhmkaa
open Go.RowKit
set_option linter.unusedVariables false

/-- Both of them, apart; what is in K is as it was in w0; and what X says of the program's memory. -/
def IBoth (K : Nat → Prop) (w0 w : World) (p q : Nat) (rp rr : Int) (l r : List Fa) (X : World → Prop) : Prop :=
  ∃ fs fr, InG w fs p rp l ∧ RInG w fr q rr r ∧ (∀ b, fs b → ¬ fr b) ∧ (∀ b, fs b → ¬ K b) ∧ (∀ b, fr b → ¬ K b) ∧ Fr (fun b => ¬ K b) w0 w ∧ (∀ b, K b → b < w0.heap.size) ∧ X w ∧ ∀ a b, Kept fs a b → X a → X b
def XT : World → Prop := fun _ => True
theorem InG.widen {w : World} {fp : Nat → Prop} {p : Nat} {room : Int} {l : List Fa} (h : InG w fp p room l) {ex : Nat → Prop} (he : ∀ b, ex b → b < w.heap.size) : InG w (fun b => fp b ∨ ex b) p room l := by
  obtain ⟨lv, rows, h1, h2, h3, h4, h5⟩ := h.ex
  exact ⟨.inl h.inp, ⟨lv, rows, h1, h2, fun g hg => .inl (h3 g hg), h4, fun y hy => (h5 y hy).mono (fun b _ hb => .inl hb)⟩, fun b hb => hb.elim (h.lt b) (he b)⟩
theorem takeA_max (room : Int) (l : List Fa) (f : Fa) (v : List Int) : takeA (max room 0) l f v = takeA room l f v ∧ takeI (max room 0) l f v = takeI room l f v := by
  have e : takeA (max room 0) l f v = takeA room l f v := by
    unfold takeA
    have h : (max room 0 ≤ (l.length : Int) ∧ mayB v f = false) = (room ≤ (l.length : Int) ∧ mayB v f = false) := by
      apply propext
      constructor
      · rintro ⟨h1, h2⟩; exact ⟨by omega, h2⟩
      · rintro ⟨h1, h2⟩; exact ⟨by omega, h2⟩
    simp only [h]
  exact ⟨e, by unfold takeI; rw [e]⟩
section
variable {K : Nat → Prop} {w0 w w' : World} {p q : Nat} {rp rr : Int} {l l' r r' : List Fa} {X X' : World → Prop}
theorem IBoth.stepS {fs fr fs' : Nat → Prop} (hr : RInG w fr q rr r) (hd : ∀ b, fs b → ¬ fr b) (hs : ∀ b, fs b → ¬ K b) (hk : ∀ b, fr b → ¬ K b) (hF : Fr (fun b => ¬ K b) w0 w) (hK : ∀ b, K b → b < w0.heap.size)
    (h' : InG w' fs' p rp l') (F : Fr fs w w') (gr : Grow w fs fs') (hX : X' w') (hX2 : ∀ a b, Kept fs' a b → X' a → X' b) : IBoth K w0 w' p q rp rr l' r X' :=
  ⟨fs', fr, h', hr.kept (F.kept fun i hi hi' => hd i hi' hi) F.size, fun b hb hb' => (gr b hb).elim (fun h => hd b h hb') (fun h => by have := hr.lt b hb'; omega),
    fun b hb hKb => (gr b hb).elim (fun h => hs b h hKb) (fun h => by have := hK b hKb; have := hF.size; omega), hk, hF.trans F (fun i hi => .inl (hs i hi)), hK, hX, hX2⟩
theorem IBoth.stepR {fs fr fr' : Nat → Prop} (hS : InG w fs p rp l) (hd : ∀ b, fs b → ¬ fr b) (hs : ∀ b, fs b → ¬ K b) (hk : ∀ b, fr b → ¬ K b) (hF : Fr (fun b => ¬ K b) w0 w) (hK : ∀ b, K b → b < w0.heap.size)
    (h' : RInG w' fr' q rr r') (F : Fr fr w w') (gr : Grow w fr fr') (hX : X w) (hX2 : ∀ a b, Kept fs a b → X a → X b) : IBoth K w0 w' p q rp rr l r' X :=
  ⟨fs, fr', hS.kept (F.kept fun i hi hi' => hd i hi hi') F.size, h', fun b hb hb' => (gr b hb').elim (fun h => hd b hb h) (fun h => by have := hS.lt b hb; omega),
    hs, fun b hb hKb => (gr b hb).elim (fun h => hk b h hKb) (fun h => by have := hK b hKb; have := hF.size; omega), hF.trans F (fun i hi => .inl (hk i hi)), hK, hX2 _ _ (F.kept fun i hi hi' => hd i hi hi') hX, hX2⟩
theorem IBoth.below (h : IBoth K w0 w p q rp rr l r X) (hb : Below w.heap.size w w') : IBoth K w0 w' p q rp rr l r X := by
  obtain ⟨fs, fr, h1, h2, h3, h4, h5, h6, h7, h8, h9⟩ := h
  exact ⟨fs, fr, h1.below hb, h2.below hb, h3, h4, h5, h6.trans (Fr.of_below hb (fp := fun _ => False)) (fun _ h => h.elim), h7, h9 _ _ (Kept.below hb) h8, h9⟩
theorem IBoth.fr (h : IBoth K w0 w p q rp rr l r X) : Fr (fun b => ¬ K b) w0 w := by obtain ⟨fs, fr, h1, h2, h3, h4, h5, h6, h7⟩ := h; exact h6
theorem IBoth.x (h : IBoth K w0 w p q rp rr l r X) : X w := by obtain ⟨fs, fr, h1, h2, h3, h4, h5, h6, h7, h8, h9⟩ := h; exact h8
theorem IBoth.drop (h : IBoth K w0 w p q rp rr l r X) : IBoth K w0 w p q rp rr l r XT := by
  obtain ⟨fs, fr, h1, h2, h3, h4, h5, h6, h7, h8, h9⟩ := h
  exact ⟨fs, fr, h1, h2, h3, h4, h5, h6, h7, trivial, fun _ _ _ _ => trivial⟩
theorem IBoth.over {K2 : Nat → Prop} {w1 : World} (h : IBoth K w0 w p q rp rr l r X) (hb : Below w.heap.size w w1) (hK : ∀ b, K2 b → K b ∨ w.heap.size ≤ b ∧ b < w1.heap.size) : IBoth K2 w1 w1 p q rp rr l r X := by
  obtain ⟨fs, fr, h1, h2, h3, h4, h5, h6, h7, h8, h9⟩ := h
  have hz := h6.size
  have hz2 := hb.size
  exact ⟨fs, fr, h1.below hb, h2.below hb, h3, fun b hb' hk => (hK b hk).elim (h4 b hb') (fun hh => by have := h1.lt b hb'; omega), fun b hb' hk => (hK b hk).elim (h5 b hb') (fun hh => by have := h2.lt b hb'; omega), Fr.refl _ _,
    fun b hk => (hK b hk).elim (fun hk => by have := h7 b hk; omega) (fun hh => hh.2), h9 _ _ (Kept.below hb) h8, h9⟩
theorem IBoth.row (h : IBoth K w0 w p q rp rr l r X) {g : Nat} {o : Obj} (hq : K g) (hc : w0.heap[g]? = some o) : w.heap[g]? = some o :=
  (h.fr.kept (fp' := K) (fun i hi hh => hh hi)) g o hq hc
theorem IBoth.outer {W : World} {B : Nat} (h : IBoth K w0 w p q rp rr l r X) (b0 : Below B W w0) (hK : ∀ b, b < B → K b) (hB : B ≤ w0.heap.size) : Below B W w :=
  b0.trans (h.fr.below (fun i hi => Nat.le_of_not_lt fun hlt => hi (hK i hlt)) hB)
/-! ### The program's -/
theorem takeBS (f : Fa) (A : Option Addr) (n c : Nat) (A2 : Option Addr) (n2 c2 : Nat) (Av : Option Addr) (nv cv : Nat) (v : List Int) (h : IBoth K w0 w p q rp rr l r X) (hv : RRow w f.rc A n c) (hr : Sl w A2 n2 1 (f.route.map (Value.int .i64))) (hc2 : n2 ≤ c2) (hn2 : n2 * 8 ≤ 140737488351232) (hsv : SlI w Av nv v) (hnv : nv ≤ 140737488351232) (hl : (l.length + 1) * 80 ≤ 140737488355328) :
    Calls Try.prog 12 #[.pointer (some ⟨p, 0, none⟩), .agg #[.int .i64 f.src, .int .i64 f.seq, .string f.rc.key, .slice A n c, .slice A2 n2 c2], .slice Av nv cv] w fun e w' => e = .returned (.int .i64 (takeA rp l f v)) ∧ IBoth K w0 w' p q rp rr (takeI rp l f v) r XT := by
  obtain ⟨fs, fr, h1, h2, h3, h4, h5, h6, h7, h8, h9⟩ := h
  refine (take_any f A n c A2 n2 c2 Av nv cv v h1 hv hr hc2 hn2 hsv hnv hl).mono ?_
  rintro e w' ⟨he, fp', h', F, gr⟩
  exact ⟨he, .stepS h2 h3 h4 h5 h6 h7 h' F gr trivial fun _ _ _ _ => trivial⟩
theorem readyBS_none (Av : Option Addr) (nv cv : Nat) (v : List Int) (h : IBoth K w0 w p q rp rr l r X) (hsv : SlI w Av nv v) (hnv : nv ≤ 140737488351232) (hl : l.length * 80 ≤ 140737488355328) (hr : readyI l v = none) :
    Calls Try.prog 13 #[.pointer (some ⟨p, 0, none⟩), .slice Av nv cv] w fun e w' => e = .returned (.tuple #[.agg #[.int .i64 0, .int .i64 0, .string ⟨#[]⟩, .slice none 0 0, .slice none 0 0], .bool false]) ∧ IBoth K w0 w' p q rp rr l r XT := by
  obtain ⟨fs, fr, h1, h2, h3, h4, h5, h6, h7, h8, h9⟩ := h
  refine (ready_any Av nv cv v h1 hsv hnv hl).mono ?_
  intro e w' hh
  unfold RdTo at hh
  rw [hr] at hh
  exact ⟨hh.1, .stepS h2 h3 h4 h5 h6 h7 hh.2.1 hh.2.2 (Grow.refl _ _) trivial fun _ _ _ _ => trivial⟩
theorem readyBS_some (Av : Option Addr) (nv cv : Nat) (v : List Int) (h : IBoth K w0 w p q rp rr l r X) (hsv : SlI w Av nv v) (hnv : nv ≤ 140737488351232) (hl : l.length * 80 ≤ 140737488355328) {k : Nat} {f : Fa} (hr : readyI l v = some k) (hf : l[k]? = some f) :
    Calls Try.prog 13 #[.pointer (some ⟨p, 0, none⟩), .slice Av nv cv] w fun e w' => ∃ (A : Option Addr) (n c : Nat) (A2 : Option Addr) (n2 c2 : Nat) (fs : Nat → Prop), e = .returned (.tuple #[.agg #[.int .i64 f.src, .int .i64 f.seq, .string f.rc.key, .slice A n c, .slice A2 n2 c2], .bool true]) ∧ IBoth K w0 w' p q rp rr (l.eraseIdx k) r (fun W => FaD W fs (f, (A, n, c), (A2, n2, c2))) := by
  obtain ⟨fs, fr, h1, h2, h3, h4, h5, h6, h7, h8, h9⟩ := h
  refine (ready_any Av nv cv v h1 hsv hnv hl).mono ?_
  intro e w' hh
  unfold RdTo at hh
  rw [hr] at hh
  obtain ⟨⟨f', ⟨A, n, c⟩, ⟨A2, n2, c2⟩⟩, hy, he, hd, hi, F⟩ := hh
  rw [hf] at hy
  injection hy with hy
  subst hy
  exact ⟨A, n, c, A2, n2, c2, fs, he, .stepS h2 h3 h4 h5 h6 h7 hi F (Grow.refl _ _) hd fun a b hk hx => hx.keep (KeepD.of hk)⟩
theorem cleanBS (Av : Option Addr) (nv cv : Nat) (v : List Int) (h : IBoth K w0 w p q rp rr l r X) (hsv : SlI w Av nv v) (hnv : nv ≤ 140737488351232) (hvK : ∀ b off, 0 < nv * 1 → Av = some ⟨b, off, none⟩ → K b) (hl : l.length * 80 ≤ 140737488355328) :
    Calls Try.prog 27 #[.pointer (some ⟨p, 0, none⟩), .slice Av nv cv] w fun e w' => ∃ (A : Option Addr) (n c : Nat) (rows : List RFa) (X' : World → Prop), e = .returned (.slice A n c) ∧ rows.map (·.1) = l.filter (covB v) ∧ (∀ W, X' W → FRow W A n rows) ∧ IBoth K w0 w' p q rp rr (l.filter fun f => !covB v f) r X' := by
  obtain ⟨fs, fr, h1, h2, h3, h4, h5, h6, h7, h8, h9⟩ := h
  refine (clean_any Av nv cv v h1 hsv hnv (fun b off hn e hf => h4 b hf (hvK b off hn e)) hl).mono ?_
  rintro e w' ⟨A, n, c, rows, fp', rfl, hm, own, hd, h', F, gr⟩
  refine ⟨A, n, c, rows, fun W => W.ownsRow w.heap.size 35 5 (.slice A n c) n (rows.flatMap fV1) ∧ ∀ y ∈ rows, FaD W fs y, rfl, hm, fun W hW => FRow.of (Sl.of_own hW.1) hW.2, .stepS (fs' := fun b => (fp' b ∨ (Value.slice A n c).ownBlock = some b) ∨ fs b ∧ b < w.heap.size) h2 h3 h4 h5 h6 h7 ((h'.widen fun b hb => (own.lt b hb).2).widen fun b hb => by have := F.size; omega) F (fun b hb => ?_) ⟨own, hd⟩ fun a b hk hx => ?_⟩
  · rcases hb with (hb | hb) | hb
    · exact gr b hb
    · exact .inr (own.lt b hb).1
    · exact .inl hb.1
  · exact ⟨own_keep hx.1 (fun g hg => .inl (.inr hg)) hk, fun y hy => (hx.2 y hy).keep (KeepD.of (fp := fs) (fun b o hb ho => hk b o (.inr ⟨hb, h1.lt b hb⟩) ho))⟩
theorem waitsB (h : IBoth K w0 w p q rp rr l r X) (hl : l.length * 80 ≤ 140737488355328) :
    Calls Try.prog 17 #[.pointer (some ⟨p, 0, none⟩)] w (NewFs w l) := by
  obtain ⟨fs, fr, h1, h2, h3, h4, h5, h6, h7, h8, h9⟩ := h
  exact waits_any h1 hl
/-! ### The document's -/
theorem takeBR (f : Fa) (A : Option Addr) (n c : Nat) (A2 : Option Addr) (n2 c2 : Nat) (Av : Option Addr) (nv cv : Nat) (v : List Int) (h : IBoth K w0 w p q rp rr l r X) (hv : RRow w f.rc A n c) (hr : Sl w A2 n2 1 (f.route.map (Value.int .i64))) (hc2 : n2 ≤ c2) (hn2 : n2 * 8 ≤ 140737488351232) (hsv : SlI w Av nv v) (hnv : nv ≤ 140737488351232) (hl : (r.length + 1) * 80 ≤ 140737488355328) :
    Calls Try.prog 24 #[.pointer (some ⟨q, 0, none⟩), .agg #[.int .i64 f.src, .int .i64 f.seq, .string f.rc.key, .slice A n c, .slice A2 n2 c2], .slice Av nv cv] w fun e w' => e = .returned (.int .i64 (takeA rr r f v)) ∧ IBoth K w0 w' p q rp rr l (takeI rr r f v) X := by
  obtain ⟨fs, fr, h1, h2, h3, h4, h5, h6, h7, h8, h9⟩ := h
  refine (rtake_any f A n c A2 n2 c2 Av nv cv v h2 hv hr hc2 hn2 hsv hnv hl).mono ?_
  rintro e w' ⟨he, fp', h', F, gr⟩
  exact ⟨he, .stepR h1 h3 h4 h5 h6 h7 h' F gr h8 h9⟩
theorem readyBR_none (Av : Option Addr) (nv cv : Nat) (v : List Int) (h : IBoth K w0 w p q rp rr l r X) (hsv : SlI w Av nv v) (hnv : nv ≤ 140737488351232) (hl : r.length * 80 ≤ 140737488355328) (hr : readyI r v = none) :
    Calls Try.prog 25 #[.pointer (some ⟨q, 0, none⟩), .slice Av nv cv] w fun e w' => e = .returned (.tuple #[.agg #[.int .i64 0, .int .i64 0, .string ⟨#[]⟩, .slice none 0 0, .slice none 0 0], .bool false]) ∧ IBoth K w0 w' p q rp rr l r X := by
  obtain ⟨fs, fr, h1, h2, h3, h4, h5, h6, h7, h8, h9⟩ := h
  refine (rready_any Av nv cv v h2 hsv hnv hl).mono ?_
  intro e w' hh
  unfold RRdTo at hh
  rw [hr] at hh
  exact ⟨hh.1, .stepR h1 h3 h4 h5 h6 h7 hh.2.1 hh.2.2 (Grow.refl _ _) h8 h9⟩
theorem readyBR_some (Av : Option Addr) (nv cv : Nat) (v : List Int) (h : IBoth K w0 w p q rp rr l r X) (hsv : SlI w Av nv v) (hnv : nv ≤ 140737488351232) (hl : r.length * 80 ≤ 140737488355328) {k : Nat} {f : Fa} (hr : readyI r v = some k) (hf : r[k]? = some f) :
    Calls Try.prog 25 #[.pointer (some ⟨q, 0, none⟩), .slice Av nv cv] w fun e w' => ∃ (A : Option Addr) (n c : Nat) (A2 : Option Addr) (n2 c2 : Nat) (ft : Nat → Prop), e = .returned (.tuple #[.agg #[.int .i64 f.src, .int .i64 f.seq, .string f.rc.key, .slice A n c, .slice A2 n2 c2], .bool true]) ∧ FaD w' ft (f, (A, n, c), (A2, n2, c2)) ∧ IBoth K w0 w' p q rp rr l (r.eraseIdx k) X := by
  obtain ⟨fs, fr, h1, h2, h3, h4, h5, h6, h7, h8, h9⟩ := h
  refine (rready_any Av nv cv v h2 hsv hnv hl).mono ?_
  intro e w' hh
  unfold RRdTo at hh
  rw [hr] at hh
  obtain ⟨⟨f', ⟨A, n, c⟩, ⟨A2, n2, c2⟩⟩, fp', hy, he, hd, hi, F, gr⟩ := hh
  rw [hf] at hy
  injection hy with hy
  subst hy
  exact ⟨A, n, c, A2, n2, c2, fr, he, hd, .stepR h1 h3 h4 h5 h6 h7 hi F gr h8 h9⟩
theorem cleanBR (Av : Option Addr) (nv cv : Nat) (v : List Int) (h : IBoth K w0 w p q rp rr l r X) (hsv : SlI w Av nv v) (hnv : nv ≤ 140737488351232) (hl : r.length * 80 ≤ 140737488355328) :
    Calls Try.prog 28 #[.pointer (some ⟨q, 0, none⟩), .slice Av nv cv] w fun e w' => ∃ (A : Option Addr) (n c : Nat) (rows : List RFa), e = .returned (.slice A n c) ∧ rows.map (·.1) = r.filter (covB v) ∧ FRow w' A n rows ∧ IBoth K w0 w' p q rp rr l (r.filter fun f => !covB v f) X := by
  obtain ⟨fs, fr, h1, h2, h3, h4, h5, h6, h7, h8, h9⟩ := h
  refine (rclean_any Av nv cv v h2 hsv hnv hl).mono ?_
  rintro e w' ⟨A, n, c, rows, fp', rfl, hm, hfr, h', F, gr⟩
  exact ⟨A, n, c, rows, rfl, hm, hfr, .stepR h1 h3 h4 h5 h6 h7 h' F gr h8 h9⟩
/-- The document's list, as it lies there. -/
theorem IBoth.rlist (h : IBoth K w0 w p q rp rr l r X) : ∃ (A : Option Addr) (c : Nat) (rows : List RFa), w.heap[q]? = some (.cells #[.int .i64 rr, .slice A r.length c] 66 (0, 0)) ∧ rows.map (·.1) = r ∧ FRow w A r.length rows := by
  obtain ⟨fs, fr, h1, h2, h3, h4, h5, h6, h7, h8, h9⟩ := h
  obtain ⟨lv, rows, g1, g2, g3, g4, g5⟩ := h2.ex
  obtain ⟨A, c, rfl, -, -⟩ := own_slice g2
  exact ⟨A, c, rows, g1, g4, FRow.of (Sl.of_own g2) g5⟩
end
end Go.Proofs.Ytilagblpamhmkaa
