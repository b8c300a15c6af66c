/-
  The inbox for a law: what else lay there stays.
-/
import Derived.Test.YtilagblpamhmkaaInboxTake2
import Derived.Test.YtilagblpamhmkaaInboxReady2
import Derived.Test.YtilagblpamhmkaaInboxWaits
namespace Go.Proofs.Ytilagblpamhmkaa
open Go.RowKit
set_option linter.unusedVariables false

/-- The inbox behind pointer p; what is in K is as it was in w0. -/
def IP (K : Nat → Prop) (w0 w : World) (p : Nat) (room : Int) (l : List Fa) : Prop :=
  ∃ fp, InG w fp p room l ∧ (∀ b, fp b → ¬ K b) ∧ Fr (fun b => ¬ K b) w0 w ∧ ∀ b, K b → b < w0.heap.size
section
variable {K : Nat → Prop} {w0 w w' : World} {p : Nat} {room : Int} {l l' : List Fa}
theorem IP.step {fp fp' : Nat → Prop} (hF : Fr (fun b => ¬ K b) w0 w) (hk : ∀ b, fp b → ¬ K b) (hK : ∀ b, K b → b < w0.heap.size) (h' : InG w' fp' p room l') (F : Fr fp w w') (gr : Grow w fp fp') : IP K w0 w' p room l' :=
  ⟨fp', h', fun b hb hKb => (gr b hb).elim (fun h => hk b h hKb) (fun h => by have := hK b hKb; have := hF.size; omega), hF.trans F (fun i hi => .inl (hk i hi)), hK⟩
theorem IP.below (h : IP K w0 w p room l) (hb : Below w.heap.size w w') : IP K w0 w' p room l := by
  obtain ⟨fp, h1, h2, h3, h4⟩ := h
  exact ⟨fp, h1.below hb, h2, h3.trans (Fr.of_below hb (fp := fun _ => False)) (fun _ h => h.elim), h4⟩
theorem IP.fr (h : IP K w0 w p room l) : Fr (fun b => ¬ K b) w0 w := by obtain ⟨fp, h1, h2, h3, h4⟩ := h; exact h3
theorem IP.klt (h : IP K w0 w p room l) : ∀ b, K b → b < w0.heap.size := by obtain ⟨fp, h1, h2, h3, h4⟩ := h; exact h4
theorem IP.ptr (h : IP K w0 w p room l) : p < w.heap.size ∧ ¬ K p := by obtain ⟨fp, h1, h2, h3, h4⟩ := h; exact ⟨h1.lt _ h1.inp, h2 _ h1.inp⟩
/-- From here on more is kept: what is new since. -/
theorem IP.over {K2 : Nat → Prop} {w1 : World} (h : IP K w0 w p room l) (hb : Below w.heap.size w w1) (hK : ∀ b, K2 b → K b ∨ w.heap.size ≤ b ∧ b < w1.heap.size) : IP K2 w1 w1 p room l := by
  obtain ⟨fp, h1, h2, h3, h4⟩ := h
  refine ⟨fp, h1.below hb, fun b hb' hk => (hK b hk).elim (h2 b hb') (fun hh => by have := h1.lt b hb'; omega), Fr.refl _ _, fun b hk => (hK b hk).elim (fun hk => ?_) (fun hh => hh.2)⟩
  have := h4 b hk
  have := h3.size
  have := hb.size
  omega
/-- What lay below B is as it was. -/
theorem IP.outer {W : World} {B : Nat} (h : IP K w0 w p room l) (b0 : Below B W w0) (hK : ∀ b, b < B → K b) (hB : B ≤ w0.heap.size) : Below B W w :=
  b0.trans (h.fr.below (fun i hi => Nat.le_of_not_lt fun hlt => hi (hK i hlt)) hB)
theorem IP.cell (h : IP K w0 w p room l) {q : Addr} {v : Value} (hq : K q.block) (hc : w0.cell? q = some v) : w.cell? q = some v :=
  (h.fr.kept (fp' := K) (fun i hi hh => hh hi)).cell hq hc
theorem IP.row (h : IP K w0 w p room l) {g : Nat} {o : Obj} (hq : K g) (hc : w0.heap[g]? = some o) : w.heap[g]? = some o :=
  (h.fr.kept (fp' := K) (fun i hi hh => hh hi)) g o hq hc
theorem IP.sl (h : IP K w0 w p room l) {A : Option Addr} {n sz : Nat} {xs : List Value} (hs : Sl w0 A n sz xs) (hA : ∀ b off, 0 < n * sz → A = some ⟨b, off, none⟩ → K b) : Sl w A n sz xs :=
  Sl.keepB hs fun b off hn e => h.fr.block b (Sl.blk_lt hs hn e) (fun hh => hh (hA b off hn e))
theorem newP (room : Int) (w : World) :
    Calls Try.prog 11 #[.int .i64 room] w fun e w' => e = .returned (.pointer (some ⟨w.heap.size, 0, none⟩)) ∧ IP (fun b => b < w.heap.size) w w' w.heap.size (max room 0) [] ∧ Below w.heap.size w w' := by
  refine (new_any room w).mono ?_
  rintro e w' ⟨he, h, b⟩
  exact ⟨he, ⟨_, h, fun b hb hk => by omega, Fr.of_below b, fun b hb => hb⟩, b⟩
theorem takeP (f : Fa) (A : Option Addr) (n c : Nat) (A2 : Option Addr) (n2 c2 : Nat) (Av : Option Addr) (nv cv : Nat) (v : List Int) (h : IP K w0 w p room l) (hv : RRow w f.rc A n c) (hr : Sl w A2 n2 1 (f.route.map (Value.int .i64))) (hc2 : n2 ≤ c2) (hn2 : n2 * 8 ≤ 140737488351232) (hsv : SlI w Av nv v) (hnv : nv ≤ 140737488351232) (hl : (l.length + 1) * 80 ≤ 140737488355328) :
    Calls Try.prog 12 #[.pointer (some ⟨p, 0, none⟩), .agg #[.int .i64 f.src, .int .i64 f.seq, .string f.rc.key, .slice A n c, .slice A2 n2 c2], .slice Av nv cv] w fun e w' => e = .returned (.int .i64 (takeA room l f v)) ∧ IP K w0 w' p room (takeI room l f v) := by
  obtain ⟨fp, h1, h2, h3, h4⟩ := h
  refine (take_any f A n c A2 n2 c2 Av nv cv v h1 hv hr hc2 hn2 hsv hnv hl).mono ?_
  rintro e w' ⟨he, fp', h', F, gr⟩
  exact ⟨he, .step h3 h2 h4 h' F gr⟩
theorem readyP_none (Av : Option Addr) (nv cv : Nat) (v : List Int) (h : IP K w0 w p room l) (hsv : SlI w Av nv v) (hnv : nv ≤ 140737488351232) (hl : l.length * 80 ≤ 140737488355328) (hr : readyI l v = none) :
    Calls Try.prog 13 #[.pointer (some ⟨p, 0, none⟩), .slice Av nv cv] w fun e w' => e = .returned (.tuple #[.agg #[.int .i64 0, .int .i64 0, .string ⟨#[]⟩, .slice none 0 0, .slice none 0 0], .bool false]) ∧ IP K w0 w' p room l := by
  obtain ⟨fp, h1, h2, h3, h4⟩ := h
  refine (ready_any Av nv cv v h1 hsv hnv hl).mono ?_
  intro e w' hh
  unfold RdTo at hh
  rw [hr] at hh
  exact ⟨hh.1, .step h3 h2 h4 hh.2.1 hh.2.2 (Grow.refl _ _)⟩
theorem readyP_some (Av : Option Addr) (nv cv : Nat) (v : List Int) (h : IP K w0 w p room l) (hsv : SlI w Av nv v) (hnv : nv ≤ 140737488351232) (hl : l.length * 80 ≤ 140737488355328) {k : Nat} {f : Fa} (hr : readyI l v = some k) (hf : l[k]? = some f) :
    Calls Try.prog 13 #[.pointer (some ⟨p, 0, none⟩), .slice Av nv cv] w fun e w' => ∃ (A : Option Addr) (n c : Nat) (A2 : Option Addr) (n2 c2 : Nat), e = .returned (.tuple #[.agg #[.int .i64 f.src, .int .i64 f.seq, .string f.rc.key, .slice A n c, .slice A2 n2 c2], .bool true]) ∧ FaD w' (fun b => ¬ K b) (f, (A, n, c), (A2, n2, c2)) ∧ IP K w0 w' p room (l.eraseIdx k) := by
  obtain ⟨fp, h1, h2, h3, h4⟩ := h
  refine (ready_any Av nv cv v h1 hsv hnv hl).mono ?_
  intro e w' hh
  unfold RdTo at hh
  rw [hr] at hh
  obtain ⟨⟨f', ⟨A, n, c⟩, ⟨A2, n2, c2⟩⟩, hy, he, hd, hi, F⟩ := hh
  rw [hf] at hy
  injection hy with hy
  subst hy
  exact ⟨A, n, c, A2, n2, c2, he, hd.mono (fun i _ hi => h2 i hi), .step h3 h2 h4 hi F (Grow.refl _ _)⟩
theorem waitsP (h : IP K w0 w p room l) (hl : l.length * 80 ≤ 140737488355328) :
    Calls Try.prog 17 #[.pointer (some ⟨p, 0, none⟩)] w (NewFs w l) := by
  obtain ⟨fp, h1, h2, h3, h4⟩ := h
  exact waits_any h1 hl
end
/-! ### Writes by hand -/
def fars (s n : Int) : Fa := ⟨2, n, ⟨⟨#[107]⟩, [⟨s, n, [], false, ⟨#[]⟩⟩]⟩, []⟩
theorem fars_right (s n : Int) (h : dotB s n = true) (hn : 1 ≤ n) : rightF (fars s n) = true := by
  have ho : okVB ⟨s, n, [], false, ⟨#[]⟩⟩ = true := by
    unfold okVB
    simp only
    rw [h, rightS_true.2 ⟨⟨by intro x hx; simp at hx, List.Pairwise.nil⟩, by simp⟩, show topS [] s = 0 from rfl, decide_eq_true (show (0 : Int) < n by omega)]
    rfl
  have hv : rightV [⟨s, n, [], false, ⟨#[]⟩⟩] = true := by
    rw [rightV_true]
    refine ⟨⟨fun v hv => ?_, List.pairwise_singleton _ _⟩, by simp⟩
    rw [List.mem_singleton.1 hv]
    exact ⟨ho, behB_false.2 fun v hv => by rw [List.mem_singleton.1 hv]; exact hasB_false (fun hh => by obtain ⟨x, hx, _⟩ := hh; simp at hx)⟩
  have hr : rightR (fars s n).rc = true := rightR_true.2 ⟨Nat.le_refl 1, show 1 ≤ 32 by omega, hv⟩
  unfold rightF
  rw [hr]
  rfl
set_option maxHeartbeats 1000000 in
theorem far_any (s n : Int) (w : World) (hw : (Lit.int .i64 s).wf = true ∧ (Lit.int .i64 n).wf = true) :
    Calls Try.prog 30 #[.int .i64 s, .int .i64 n] w fun e w' => ∃ A, e = .returned (.agg #[.int .i64 (fars s n).src, .int .i64 (fars s n).seq, .string (fars s n).rc.key, .slice A 1 1, .slice none 0 0]) ∧ RRow w' (fars s n).rc A 1 1 ∧ Below w.heap.size w w' := by
  go_enter Try.func30, Try.ntmps30
  go_wp2
  have k1 := heap_alloc_new w (.cells #[.int .i64 2, .int .i64 n, .string ⟨#[107]⟩, .slice (some ⟨w.heap.size + 1, 0, none⟩) 1 1, .slice none 0 0] 35)
  have b1 : Below w.heap.size w (w.alloc (.cells #[.int .i64 2, .int .i64 n, .string ⟨#[107]⟩, .slice (some ⟨w.heap.size + 1, 0, none⟩) 1 1, .slice none 0 0] 35)) := (Below.refl _ _).alloc (Nat.le_refl _) _
  have hs1 : (w.alloc (.cells #[.int .i64 2, .int .i64 n, .string ⟨#[107]⟩, .slice (some ⟨w.heap.size + 1, 0, none⟩) 1 1, .slice none 0 0] 35)).heap.size = w.heap.size + 1 := by simp
  obtain ⟨w1, hw1⟩ : ∃ w1, w.alloc (.cells #[.int .i64 2, .int .i64 n, .string ⟨#[107]⟩, .slice (some ⟨w.heap.size + 1, 0, none⟩) 1 1, .slice none 0 0] 35) = w1 := ⟨_, rfl⟩
  rw [hw1] at k1 b1 hs1 ⊢
  have k2 := (Below.heap_alloc w1 (.cells #[.int .i64 s, .int .i64 n, .slice none 0 0, .bool false, .string ⟨#[]⟩] 42) w.heap.size (by omega)).trans k1
  refine bodyPost_ret (results_cell_row rfl _ _ w.heap.size _ #[.int .i64 2, .int .i64 n, .string ⟨#[107]⟩, .slice (some ⟨w.heap.size + 1, 0, none⟩) 1 1, .slice none 0 0] _ _ rfl k2 Try.underlying35 rfl Try.infoFarSize) rfl ?_
  refine ⟨some ⟨w.heap.size + 1, 0, none⟩, rfl, ⟨⟨[(⟨s, n, [], false, ⟨#[]⟩⟩, none, 0, 0)], rfl, sl_lit w1 _ _ (w.heap.size + 1) 1 5 _ hs1.symm rfl rfl, fun y hy => ?_⟩, Nat.le_refl _, by omega, show 1 ≤ 140737488351232 by omega⟩, b1.alloc (by omega) _⟩
  rw [List.mem_singleton.1 hy]
  exact ⟨Sl.nil _ _ _, Nat.le_refl _, show 0 * 24 ≤ 140737488351232 by omega, hw, fun x hx => (nomatch hx), Nat.zero_le _⟩
theorem aw1 : takeA 2 [] (fars 1 2) [0, 0] = 2 ∧ takeI 2 [] (fars 1 2) [0, 0] = [fars 1 2] := takeA_kept (fars_right 1 2 (by decide) (by decide)) (by decide) (by decide) (by decide)
theorem aw2 : takeA 2 [fars 1 2] (fars 1 1) [0, 0] = 2 ∧ takeI 2 [fars 1 2] (fars 1 1) [0, 0] = [fars 1 2, fars 1 1] := takeA_kept (fars_right 1 1 (by decide) (by decide)) (by decide) (by decide) (by decide)
theorem aw3 : takeA 2 [fars 1 2, fars 1 1] (fars 2 2) [0, 0] = 4 ∧ takeI 2 [fars 1 2, fars 1 1] (fars 2 2) [0, 0] = [fars 1 2, fars 1 1] := takeA_full (fars_right 2 2 (by decide) (by decide)) (by decide) (by decide) (by decide) (by decide)
theorem aw4 : readyI [fars 1 2, fars 1 1] [0, 0] = some 1 := by decide
theorem aw5 : readyI [fars 1 2] [1, 0] = some 0 := by decide
theorem aw6 : takeA 2 [] (fars 1 1) [1, 0] = 1 ∧ takeI 2 [] (fars 1 1) [1, 0] = [] := takeA_cov (fars_right 1 1 (by decide) (by decide)) (by decide)
set_option maxHeartbeats 20000000 in
set_option maxRecDepth 100000 in
theorem awake_any (w : World) : Calls Try.prog 9 #[] w fun e w' => e = .returned (.bool true) ∧ Below w.heap.size w w' := by
  have C1 := Lib.hid (newP 2 w)
  rw [show max (2 : Int) 0 = 2 from rfl] at C1
  go_enter Try.func9, Try.ntmps9
  go_wp2_with fail
  refine C1.out.mono ?_
  rintro e w1 ⟨rfl, h1, b1⟩
  have hs1 := b1.size
  have H1 := Lib.hid (h1.over (K2 := fun b => b < w.heap.size ∨ b = w1.heap.size) (w1 := w1.alloc (.cells #[.int .i64 0, .int .i64 0] 2)) ((Below.refl _ _).alloc (Nat.le_refl _) _) (fun b hb => hb.elim .inl (fun e => .inr ⟨by omega, by rw [e]; simp⟩)))
  have HB := Lib.hid (b1.alloc hs1 (.cells #[.int .i64 0, .int .i64 0] 2))
  have s0 : SlI (w1.alloc (.cells #[.int .i64 0, .int .i64 0] 2)) (some ⟨w1.heap.size, 0, none⟩) 2 [0, 0] := sl_lit w1 _ _ w1.heap.size 2 1 _ rfl rfl rfl
  have HV := Lib.hid s0
  have hq : w1.heap.size < (w1.alloc (.cells #[.int .i64 0, .int .i64 0] 2)).heap.size := by simp
  have CF := Lib.hid (fun (s n : Int) hw => far_any s n (w1.alloc (.cells #[.int .i64 0, .int .i64 0] 2)) hw)
  obtain ⟨p, hp⟩ : ∃ p, w.heap.size = p := ⟨_, rfl⟩
  obtain ⟨q, hqq⟩ : ∃ q, w1.heap.size = q := ⟨_, rfl⟩
  obtain ⟨W2, hW2⟩ : ∃ W2, w1.alloc (.cells #[.int .i64 0, .int .i64 0] 2) = W2 := ⟨_, rfl⟩
  rw [hW2, hp, hqq] at H1
  rw [hW2, hp] at HB
  rw [hW2, hqq] at HV
  rw [hW2, hqq] at hq
  rw [hp] at hs1
  rw [hqq] at hs1
  have HW2 := Lib.hid hW2
  have HP := Lib.hid hp
  have HQ := Lib.hid hqq
  clear b1 h1 s0 C1 hW2 hqq hp CF
  rw [HP.out]
  go_wp2_with fail
  rw [HQ.out, HW2.out]
  go_wp2_with fail
  refine (far_any 1 2 _ ⟨by decide, by decide⟩).mono ?_
  rintro e wa ⟨Aa, rfl, v, b⟩
  have HI := Lib.hid (And.intro (H1.out.below b) v)
  clear v b
  have ct := takeP (fars 1 2) Aa 1 1 none 0 0 (some ⟨q, 0, none⟩) 2 2 [0, 0] HI.out.1 HI.out.2 (Sl.nil _ _ _) (Nat.le_refl _) (by decide) (HI.out.1.sl HV.out (fun b off _ e => by injection e with e; injection e with e; exact .inr e.symm)) (by decide) (by decide)
  rw [aw1.1, aw1.2] at ct
  have CT := Lib.hid ct
  clear ct
  go_wp2_with fail
  refine CT.out.mono ?_
  clear CT
  rintro e wb ⟨rfl, h2⟩
  have H2 := Lib.hid h2
  clear h2 HI
  go_wp2_with fail
  refine (far_any 1 1 _ ⟨by decide, by decide⟩).mono ?_
  rintro e wc ⟨Ac, rfl, v, b⟩
  have HI := Lib.hid (And.intro (H2.out.below b) v)
  clear v b
  have ct := takeP (fars 1 1) Ac 1 1 none 0 0 (some ⟨q, 0, none⟩) 2 2 [0, 0] HI.out.1 HI.out.2 (Sl.nil _ _ _) (Nat.le_refl _) (by decide) (HI.out.1.sl HV.out (fun b off _ e => by injection e with e; injection e with e; exact .inr e.symm)) (by decide) (by decide)
  rw [aw2.1, aw2.2] at ct
  have CT := Lib.hid ct
  clear ct
  go_wp2_with fail
  refine CT.out.mono ?_
  clear CT
  rintro e wd ⟨rfl, h3⟩
  have H3 := Lib.hid h3
  clear h3 HI H1 H2
  go_wp2_with fail
  refine (far_any 2 2 _ ⟨by decide, by decide⟩).mono ?_
  rintro e we ⟨Ae, rfl, v, b⟩
  have HI := Lib.hid (And.intro (H3.out.below b) v)
  clear v b
  have ct := takeP (fars 2 2) Ae 1 1 none 0 0 (some ⟨q, 0, none⟩) 2 2 [0, 0] HI.out.1 HI.out.2 (Sl.nil _ _ _) (Nat.le_refl _) (by decide) (HI.out.1.sl HV.out (fun b off _ e => by injection e with e; injection e with e; exact .inr e.symm)) (by decide) (by decide)
  rw [aw3.1, aw3.2] at ct
  have CT := Lib.hid ct
  clear ct
  go_wp2_with fail
  refine CT.out.mono ?_
  clear CT
  rintro e wf ⟨rfl, h4⟩
  have CR := Lib.hid (readyP_some (some ⟨q, 0, none⟩) 2 2 [0, 0] h4 (h4.sl HV.out (fun b off _ e => by injection e with e; injection e with e; exact .inr e.symm)) (by decide) (by decide) aw4 rfl)
  clear h4 HI H3
  go_wp2_with fail
  refine CR.out.mono ?_
  rintro e wg ⟨A1, n1, c1, A2, n2, c2, rfl, -, h5⟩
  have hsg := h5.fr.size
  have hss := HB.out.size
  have H5 := Lib.hid (h5.over (K2 := fun b => b < p ∨ b = wg.heap.size) (w1 := wg.alloc (.cells #[.int .i64 (fars 1 1).src, .int .i64 (fars 1 1).seq, .string (fars 1 1).rc.key, .slice A1 n1 c1, .slice A2 n2 c2] 35)) ((Below.refl _ _).alloc (Nat.le_refl _) _) (fun b hb => hb.elim (fun hh => .inl (.inl hh)) (fun e => .inr ⟨by omega, by rw [e]; simp⟩)))
  have HB5 := Lib.hid (h5.outer HB.out (fun b hb => .inl hb) (by rw [← HP.out]; exact HB.out.size))
  have kr := heap_alloc_new wg (.cells #[.int .i64 (fars 1 1).src, .int .i64 (fars 1 1).seq, .string (fars 1 1).rc.key, .slice A1 n1 c1, .slice A2 n2 c2] 35)
  obtain ⟨wh, hwh⟩ : ∃ wh, wg.alloc (.cells #[.int .i64 (fars 1 1).src, .int .i64 (fars 1 1).seq, .string (fars 1 1).rc.key, .slice A1 n1 c1, .slice A2 n2 c2] 35) = wh := ⟨_, rfl⟩
  obtain ⟨r, hr⟩ : ∃ r, wg.heap.size = r := ⟨_, rfl⟩
  rw [hwh, hr] at H5 kr
  rw [hr] at hsg
  have hsh : r + 1 = wh.heap.size := by rw [← hwh, ← hr]; simp
  have HB6 := Lib.hid (show Below p w wh from by rw [← hwh]; exact HB5.out.alloc (by rw [← HP.out]; exact HB5.out.size) _)
  have HWH := Lib.hid hwh
  have HR := Lib.hid hr
  have HKR := Lib.hid kr
  clear h5 hwh hr kr CR HB5
  have h6 := H5.out.below ((Below.refl _ wh).alloc (Nat.le_refl _) (.cells #[.int .i64 1, .int .i64 0] 2))
  have CR := Lib.hid (readyP_some (some ⟨r + 1, 0, none⟩) 2 2 [1, 0] h6 (sl_lit wh _ _ (r + 1) 2 1 _ hsh rfl rfl) (by decide) (by decide) aw5 rfl)
  clear h6
  go_wp2_with fail
  rw [HWH.out, HR.out]
  go_wp2_with fail
  refine CR.out.mono ?_
  rintro e wi ⟨A3, n3, c3, A4, n4, c4, rfl, -, h7⟩
  have k7 := h7.row (.inr rfl) HKR.out
  have h8 := h7.below ((Below.refl _ wi).alloc (Nat.le_refl _) (.cells #[.int .i64 (fars 1 2).src, .int .i64 (fars 1 2).seq, .string (fars 1 2).rc.key, .slice A3 n3 c3, .slice A4 n4 c4] 35))
  have k8 := (Below.heap_alloc wi (.cells #[.int .i64 (fars 1 2).src, .int .i64 (fars 1 2).seq, .string (fars 1 2).rc.key, .slice A3 n3 c3, .slice A4 n4 c4] 35) r (lt_of_block k7)).trans k7
  have k9 := heap_alloc_new wi (.cells #[.int .i64 (fars 1 2).src, .int .i64 (fars 1 2).seq, .string (fars 1 2).rc.key, .slice A3 n3 c3, .slice A4 n4 c4] 35)
  have H8 := Lib.hid h8
  have x1 := (show _ = some (.int .i64 1) from row_cell (j := 1) k8 rfl)
  have x2 := (show _ = some (.int .i64 2) from row_cell (j := 1) k9 rfl)
  have CW := Lib.hid (waitsP h8 (by decide))
  clear h7 h8 k7 k8 k9 CR
  go_wp2_with fail
  refine CW.out.mono ?_
  rintro e wj ⟨A5, n5, c5, rows, rfl, hw⟩
  obtain ⟨hn, -⟩ := hw.len (Nat.le_refl _)
  obtain rfl : n5 = 0 := hn
  have h9 := H8.out.below hw.below
  have H9 := Lib.hid h9
  clear hw h9 CW x1 x2
  go_wp2_with fail
  refine (far_any 1 1 _ ⟨by decide, by decide⟩).mono ?_
  rintro e wk ⟨A6, rfl, v, b⟩
  have h10 := H9.out.below (b.alloc b.size (.cells #[.int .i64 1, .int .i64 0] 2))
  have ct := takeP (fars 1 1) A6 1 1 none 0 0 (some ⟨wk.heap.size, 0, none⟩) 2 2 [1, 0] h10 (v.below ((Below.refl _ _).alloc (Nat.le_refl _) _)) (Sl.nil _ _ _) (Nat.le_refl _) (by decide) (sl_lit wk _ _ wk.heap.size 2 1 _ rfl rfl rfl) (by decide) (by decide)
  rw [show (([fars 1 2, fars 1 1].eraseIdx 1).eraseIdx 0) = [] from rfl, aw6.1, aw6.2] at ct
  have CT := Lib.hid ct
  clear ct v b h10
  go_wp2_with fail
  refine CT.out.mono ?_
  rintro e wl ⟨rfl, h11⟩
  have HE := Lib.hid (h11.outer HB6.out (fun b hb => .inl hb) (by rw [← HP.out]; exact HB6.out.size))
  clear CT h11
  go_wp2
  go_ret
  exact ⟨rfl, by rw [HP.out]; exact HE.out⟩
end Go.Proofs.Ytilagblpamhmkaa
