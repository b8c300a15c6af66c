/-
  firthref06.Read: numbers, counts, spans; firthref06.Set.
-/
import Derived.Test.YtgnedaihchmoaaaMB
import Derived.Test.YtgnedaihchmoaaaMC
namespace Go.Proofs.Ytgnedaihchmoaaa
open Go.RowKit
set_option linter.unusedVariables false

/-- Where the document's reader stands: how far, and whether something was bad. -/
structure QSt (w : World) (r : Nat) (A : Option Addr) (n c : Nat) (L : List UInt8) (a : Nat) (bad : Bool) : Prop where
  box : w.heap[r]? = some (.cells #[.slice A n c, .int .i64 (a : Int), .bool bad] 109 (0, 0))
  sl : SlB w A n L
  far : ∀ b off s, 0 < n → A = some ⟨b, off, s⟩ → b ≠ r
  le : a ≤ n
  cap : n ≤ c
  size : n ≤ 140737488351232
section
variable {w w1 : World} {r : Nat} {A : Option Addr} {n c : Nat} {L : List UInt8} {a : Nat} {bad : Bool}
theorem QSt.len (h : QSt w r A n c L a bad) : L.length = n := h.sl.len
theorem QSt.lt (h : QSt w r A n c L a bad) : r < w.heap.size := lt_of_block h.box
theorem QSt.c0 (h : QSt w r A n c L a bad) : w.cell? ⟨r, 0, none⟩ = some (.slice A n c) := by rw [cell_of_row w r 0 _ _ (0, 0) h.box]; rfl
theorem QSt.c1 (h : QSt w r A n c L a bad) : w.cell? ⟨r, 1, none⟩ = some (.int .i64 (a : Int)) := by rw [cell_of_row w r 1 _ _ (0, 0) h.box]; rfl
theorem QSt.c2 (h : QSt w r A n c L a bad) : w.cell? ⟨r, 2, none⟩ = some (.bool bad) := by rw [cell_of_row w r 2 _ _ (0, 0) h.box]; rfl
theorem QSt.fr (h : QSt w r A n c L a bad) (j : Nat) : w.frozen? ⟨r, j, none⟩ = false := frozen_of_row w r j _ _ h.box
theorem QSt.move (h : QSt w r A n c L a bad) (b : Below w.heap.size w w1) : QSt w1 r A n c L a bad :=
  ⟨(b.block r h.lt).trans h.box, Sl.below h.sl b, h.far, h.le, h.cap, h.size⟩
theorem QSt.moveB (h : QSt w r A n c L a bad) {B : Nat} (hr : r < B) (hA : ∀ b' off s, 0 < n → A = some ⟨b', off, s⟩ → b' < B) (b : Below B w w1) : QSt w1 r A n c L a bad :=
  ⟨(b.block r hr).trans h.box, Sl.keepB h.sl fun b' off hn e => b.block b' (hA b' off none (by omega) e), h.far, h.le, h.cap, h.size⟩
theorem QSt.blk (h : QSt w r A n c L a bad) : ∀ b' off s, 0 < n → A = some ⟨b', off, s⟩ → b' < w.heap.size := fun b' off s hn e => Sl.blk_lt h.sl (by omega) e
theorem QSt.setAt (h : QSt w r A n c L a bad) {b : Nat} (hb : b ≤ n) : QSt (w.setCell ⟨r, 1, none⟩ (.int .i64 (b : Int))) r A n c L b bad ∧ Fr (fun i => i = r) w (w.setCell ⟨r, 1, none⟩ (.int .i64 (b : Int))) := by
  refine ⟨⟨?_, ?_, h.far, hb, h.cap, h.size⟩, Fr.set w ⟨r, 1, none⟩ _⟩
  · rw [heap_setCell_same w r 1 _ _ _ h.box]; rfl
  · exact Sl.keepB h.sl fun b' off hn e => Below.heap_setCell w _ _ b' (h.far b' off none (by omega) e)
theorem QSt.setBad (h : QSt w r A n c L a bad) : QSt (w.setCell ⟨r, 2, none⟩ (.bool true)) r A n c L a true ∧ Fr (fun i => i = r) w (w.setCell ⟨r, 2, none⟩ (.bool true)) := by
  refine ⟨⟨?_, ?_, h.far, h.le, h.cap, h.size⟩, Fr.set w ⟨r, 2, none⟩ _⟩
  · rw [heap_setCell_same w r 2 _ _ _ h.box]; rfl
  · exact Sl.keepB h.sl fun b' off hn e => Below.heap_setCell w _ _ b' (h.far b' off none (by omega) e)
end
/-- The next number; 0, once something was bad. -/
def qNum (L : List UInt8) (a : Nat) (bad : Bool) : Nat × Nat × Bool :=
  if bad then (0, a, true) else match pNum L a with | some (n, a1) => (n, a1, false) | none => (0, a, true)
theorem qNum_bad (L : List UInt8) (a : Nat) : qNum L a true = (0, a, true) := rfl
theorem qNum_yes {L : List UInt8} {a n a1 : Nat} (h : pNum L a = some (n, a1)) : qNum L a false = (n, a1, false) := by unfold qNum; simp [h]
theorem qNum_no {L : List UInt8} {a : Nat} (h : pNum L a = none) : qNum L a false = (0, a, true) := by unfold qNum; simp [h]
theorem qNum_lt (L : List UInt8) (a : Nat) (bad : Bool) : (qNum L a bad).1 < 9223372036854775808 := by
  cases bad with
  | true => rw [qNum_bad]; show (0 : Nat) < 9223372036854775808; omega
  | false =>
    cases h : pNum L a with
    | none => rw [qNum_no h]; show (0 : Nat) < 9223372036854775808; omega
    | some p => rw [qNum_yes h]; exact (pNum_le h).2.2.2
/-- What a reading of a number leaves. -/
def QNum (w : World) (r : Nat) (A : Option Addr) (n c : Nat) (L : List UInt8) (q : Nat × Nat × Bool) (e : Ending) (w' : World) : Prop :=
  e = .returned (.int .i64 (q.1 : Int)) ∧ QSt w' r A n c L q.2.1 q.2.2 ∧ Fr (fun i => i = r) w w'
set_option maxHeartbeats 1000000 in
theorem qnum_any {w : World} {r : Nat} {A : Option Addr} {n c : Nat} {L : List UInt8} {a : Nat} {bad : Bool} (h : QSt w r A n c L a bad) :
    Calls Try.prog 57 #[.pointer (some ⟨r, 0, none⟩)] w (QNum w r A n c L (qNum L a bad)) := by
  cases bad with
  | true =>
    rw [qNum_bad]
    have c2 := h.c2
    have H := Lib.hid h
    clear h
    go_enter Try.func57, Try.ntmps57
    go_wp2
    go_ret
    exact ⟨rfl, H.out, Fr.refl _ _⟩
  | false =>
    cases hp : pNum L a with
    | some p =>
      obtain ⟨m, a1⟩ := p
      rw [qNum_yes hp]
      obtain ⟨k, hr, rfl⟩ := pNum_some hp
      have hle := pNum_le hp
      have C := Lib.hid (fun z : Ext w => calls_swap (refNum_ok (h.move z.below).sl h.cap h.size h.le hr))
      have hl := h.len
      clear hr hp
      have C0 := Ext.cell h.c0
      have C1 := Ext.cell h.c1
      have c2 := h.c2
      have H := Lib.hid h
      clear h
      go_enter Try.func57, Try.ntmps57
      go_wp2_with fail
      refine wp_region_ext (by kernel_rfl) (by kernel_rfl) ?_
      repeat (go_big_quiet_step ((go_at_call 104; exact Calls.ext_same (C.out _))))
      refine wpQuiet_nil ?_
      intro w1 hw1
      have b1 := ext_end hw1
      have H1 := Lib.hid (H.out.move b1)
      have f1 := H1.out.fr 1
      have f2 := H1.out.fr 2
      have c1 := H1.out.c1
      have c2' := H1.out.c2
      have HB := Lib.hid b1
      clear hw1 C0 C1 b1 c2
      have HE := Lib.hid (H1.out.setAt (b := a + k) (by omega))
      go_wp2
      go_ret
      have e1 : ((a + k : Nat) : Int) = (a : Int) + (k : Int) := by omega
      have HE1 := HE.out
      rw [e1] at HE1
      exact ⟨rfl, HE1.1, (Fr.of_below HB.out).trans HE1.2 (fun _ h => .inl h)⟩
    | none =>
      rw [qNum_no hp]
      obtain ⟨x, hr⟩ := pNum_none hp
      have hx : x = 2 ∨ x = 4 := rdN_err _ _ _ _ hr
      have hx0 : (x == 0) = false := by rw [beq_eq_false_iff_ne]; omega
      have hx1 : (x != 0) = true := by rw [bne_iff_ne]; omega
      have C := Lib.hid (fun z : Ext w => calls_swap (refNum_err (h.move z.below).sl h.cap h.size h.le hr))
      clear hr hp hx
      have C0 := Ext.cell h.c0
      have C1 := Ext.cell h.c1
      have c2 := h.c2
      have H := Lib.hid h
      clear h
      go_enter Try.func57, Try.ntmps57
      go_wp2_with fail
      refine wp_region_ext (by kernel_rfl) (by kernel_rfl) ?_
      repeat (go_big_quiet_step ((go_at_call 104; exact Calls.ext_same (C.out _))))
      refine wpQuiet_nil ?_
      intro w1 hw1
      have b1 := ext_end hw1
      have H1 := Lib.hid (H.out.move b1)
      have f1 := H1.out.fr 1
      have f2 := H1.out.fr 2
      have c1 := H1.out.c1
      have c2' := H1.out.c2
      have HB := Lib.hid b1
      clear hw1 C0 C1 b1 c2
      have HE := Lib.hid H1.out.setBad
      go_wp2
      go_ret
      exact ⟨rfl, HE.out.1, (Fr.of_below HB.out).trans HE.out.2 (fun _ h => .inl h)⟩
/-- How many a list has. -/
def qCount (L : List UInt8) (a : Nat) (bad : Bool) : Nat × Nat × Bool :=
  if L.length - (qNum L a bad).2.1 < (qNum L a bad).1 then (0, (qNum L a bad).2.1, true) else qNum L a bad
set_option maxHeartbeats 1000000 in
theorem qcount_any {w : World} {r : Nat} {A : Option Addr} {n c : Nat} {L : List UInt8} {a : Nat} {bad : Bool} (h : QSt w r A n c L a bad) :
    Calls Try.prog 60 #[.pointer (some ⟨r, 0, none⟩)] w (QNum w r A n c L (qCount L a bad)) := by
  have C1 := Lib.hid (qnum_any h)
  have hl := h.len
  have hsz := h.size
  have hlt := qNum_lt L a bad
  unfold qCount
  obtain ⟨q, hq⟩ : ∃ q, qNum L a bad = q := ⟨_, rfl⟩
  rw [hq] at C1 hlt ⊢
  clear hq h
  obtain ⟨m, a1, b1⟩ := q
  simp only at hlt ⊢
  by_cases hm : L.length - a1 < m
  all_goals
    first | rw [if_pos hm] | rw [if_neg hm]
    go_enter Try.func60, Try.ntmps60
    go_wp2_with fail
    refine C1.out.mono ?_
    rintro e w1 ⟨rfl, h1, f1⟩
    have hle := h1.le
    simp only at hle
    have hqq : decide ((m : Int) > (n : Int) - (a1 : Int)) = decide (L.length - a1 < m) := decide_eq_decide.2 (by omega)
    first | rw [decide_eq_true hm] at hqq | rw [decide_eq_false hm] at hqq
    have hws : IntKind.i64.wrap ((n : Int) - (a1 : Int)) = (n : Int) - (a1 : Int) := IntWalk.i64_in _ (by omega)
    have X0 := Ext.cell h1.c0
    have X1 := Ext.cell h1.c1
    simp only at X1
    have H1 := Lib.hid h1
    have F1 := Lib.hid f1
    clear h1 f1 C1
    go_wp2_with fail
    refine wp_region_ext (by kernel_rfl) (by kernel_rfl) ?_
    repeat (go_big_quiet_step (fail))
    refine wpQuiet_nil ?_
    intro w2 hw2
    have b2 := ext_end hw2
    have h2 := H1.out.move b2
    have c2 := h2.c2
    have f2 := h2.fr 2
    have H2 := Lib.hid h2
    have F2 := Lib.hid (F1.out.trans (Fr.of_below b2 (fp := fun i => i = r)) fun _ h => .inl h)
    clear hw2 X0 X1 b2 hws h2
    go_wp2
    go_ret
    first
      | exact ⟨rfl, H2.out, F2.out⟩
      | exact ⟨rfl, H2.out.setBad.1, F2.out.trans H2.out.setBad.2 fun _ h => .inl h⟩
/-- What a reading that may have been bad already says of what is to be read. -/
def QRes {α : Type} (o : Option (α × Nat)) (bad : Bool) (x : α) (a' : Nat) (bad' : Bool) : Prop := (bad' = false → bad = false ∧ o = some (x, a')) ∧ (bad' = true → bad = true ∨ o = none)
theorem qNum_res (L : List UInt8) (a : Nat) (bad : Bool) : QRes (pNum L a) bad (qNum L a bad).1 (qNum L a bad).2.1 (qNum L a bad).2.2 := by
  cases bad with
  | true => rw [qNum_bad]; exact ⟨fun h => (by cases h), fun _ => .inl rfl⟩
  | false =>
    cases h : pNum L a with
    | none => rw [qNum_no h]; exact ⟨fun h => (by cases h), fun _ => .inr rfl⟩
    | some p => rw [qNum_yes h]; exact ⟨fun _ => ⟨rfl, rfl⟩, fun h => (by cases h)⟩
theorem qCount_spec {α : Type} (p : List UInt8 → Nat → Option (α × Nat)) (L : List UInt8) (a : Nat) (bad : Bool) :
    ((qCount L a bad).2.2 = true → (qCount L a bad).1 = 0 ∧ (bad = true ∨ pTake p L a = none)) ∧ ((qCount L a bad).2.2 = false → bad = false ∧ (qCount L a bad).1 ≤ L.length - (qCount L a bad).2.1 ∧ pTake p L a = pRep p L (qCount L a bad).1 (qCount L a bad).2.1) := by
  unfold qCount
  cases bad with
  | true => rw [qNum_bad]; simp
  | false =>
    cases h : pNum L a with
    | none => rw [qNum_no h]; simp [pTake_no h]
    | some q =>
      obtain ⟨m, a1⟩ := q
      rw [qNum_yes h]
      simp only
      by_cases hm : L.length - a1 < m
      · rw [if_pos hm]; simp [pTake_many (p := p) h hm]
      · rw [if_neg hm]
        have hle : m ≤ L.length - a1 := by omega
        simp [pTake_eq (p := p) h hle, hle]
def okQ (f m : Nat) : Bool := decide (f ≤ 4611686018427387904) && decide (m ≤ 4611686018427387904)
theorem okQ_small (f m : Nat) (h : f + m ≤ 4611686018427387904) : okQ f m = true := by
  unfold okQ
  rw [decide_eq_true (by omega), decide_eq_true (by omega)]; rfl
theorem qSpan_spec (L : List UInt8) (a s a1 f a2 m a3 : Nat) (b1 b2 b3 : Bool) (h1 : qNum L a false = (s, a1, b1)) (h2 : qNum L a1 b1 = (f, a2, b2)) (h3 : qNum L a2 b2 = (m, a3, b3)) :
    ((4611686018427387904 < f ∨ 4611686018427387904 < m) → gSpan okQ L a = none) ∧ (f ≤ 4611686018427387904 → m ≤ 4611686018427387904 → (b3 = true → gSpan okQ L a = none) ∧ (b3 = false → gSpan okQ L a = some (((s : Int), (f : Int), wrap64 ((f : Int) + (m : Int))), a3))) := by
  cases e1 : pNum L a with
  | none =>
    rw [qNum_no e1] at h1
    simp only [Prod.mk.injEq] at h1
    obtain ⟨rfl, rfl, rfl⟩ := h1
    rw [qNum_bad] at h2
    simp only [Prod.mk.injEq] at h2
    obtain ⟨rfl, rfl, rfl⟩ := h2
    rw [qNum_bad] at h3
    simp only [Prod.mk.injEq] at h3
    obtain ⟨rfl, rfl, rfl⟩ := h3
    exact ⟨fun h => by omega, fun _ _ => ⟨fun _ => gSpan_no1 e1, fun h => (by cases h)⟩⟩
  | some p1 =>
    obtain ⟨s', a1'⟩ := p1
    rw [qNum_yes e1] at h1
    simp only [Prod.mk.injEq] at h1
    obtain ⟨rfl, rfl, rfl⟩ := h1
    cases e2 : pNum L a1' with
    | none =>
      rw [qNum_no e2] at h2
      simp only [Prod.mk.injEq] at h2
      obtain ⟨rfl, rfl, rfl⟩ := h2
      rw [qNum_bad] at h3
      simp only [Prod.mk.injEq] at h3
      obtain ⟨rfl, rfl, rfl⟩ := h3
      exact ⟨fun h => by omega, fun _ _ => ⟨fun _ => gSpan_no2 e1 e2, fun h => (by cases h)⟩⟩
    | some p2 =>
      obtain ⟨f', a2'⟩ := p2
      rw [qNum_yes e2] at h2
      simp only [Prod.mk.injEq] at h2
      obtain ⟨rfl, rfl, rfl⟩ := h2
      cases e3 : pNum L a2' with
      | none =>
        rw [qNum_no e3] at h3
        simp only [Prod.mk.injEq] at h3
        obtain ⟨rfl, rfl, rfl⟩ := h3
        exact ⟨fun _ => gSpan_no3 e1 e2 e3, fun _ _ => ⟨fun _ => gSpan_no3 e1 e2 e3, fun h => (by cases h)⟩⟩
      | some p3 =>
        obtain ⟨m', a3'⟩ := p3
        rw [qNum_yes e3] at h3
        simp only [Prod.mk.injEq] at h3
        obtain ⟨rfl, rfl, rfl⟩ := h3
        have hat := gSpan_at (ok := okQ) e1 e2 e3
        refine ⟨fun h => ?_, fun hf hm => ⟨fun h => (by cases h), fun _ => ?_⟩⟩
        · rw [hat, if_neg]
          unfold okQ
          rw [Bool.and_eq_true, decide_eq_true_eq, decide_eq_true_eq]
          omega
        · rw [hat, if_pos]
          unfold okQ
          rw [decide_eq_true hf, decide_eq_true hm]; rfl
/-- What a reading of a list leaves. -/
def QList {α : Type} (R : World → List α → Value → Prop) (w : World) (r : Nat) (A : Option Addr) (n c : Nat) (L : List UInt8) (o : Option (List α × Nat)) (bad : Bool) (e : Ending) (w' : World) : Prop :=
  ∃ v xs a' bad', e = .returned v ∧ R w' xs v ∧ QSt w' r A n c L a' bad' ∧ Fr (fun i => i = r) w w' ∧ QRes o bad xs a' bad'
/-- Spans that were read, well or not. -/
def QSpV (B n : Nat) (w : World) (xs : List Sp) (v : Value) : Prop := OwnS B w xs v ∧ (∀ x ∈ xs, wfSp x) ∧ xs.length ≤ n
theorem wf_i64q {x : Int} (h1 : -9223372036854775808 ≤ x) (h2 : x ≤ 9223372036854775807) : (Lit.int .i64 x).wf = true := by
  show (decide (IntKind.i64.min ≤ x) && decide (x ≤ IntKind.i64.max)) = true
  rw [Bool.and_eq_true]
  exact ⟨decide_eq_true h1, decide_eq_true h2⟩
theorem wrap64_in (x : Int) : -9223372036854775808 ≤ wrap64 x ∧ wrap64 x ≤ 9223372036854775807 := by unfold wrap64; omega
theorem wfSp_read {s f y : Nat} {t : Int} (hs : s < 9223372036854775808) (hf : f < 9223372036854775808) (ht : wrap64 ((f : Int) + (y : Int)) = t) : wfSp ((s : Int), (f : Int), t) := by
  have := wrap64_in ((f : Int) + (y : Int))
  exact ⟨wf_i64q (by simp only; omega) (by simp only; omega), wf_i64q (by simp only; omega) (by simp only; omega), wf_i64q (by simp only; omega) (by simp only; omega)⟩
/-- Where the loop over the spans stands. -/
def QLoop (L : List UInt8) (m a1 : Nat) (b1 : Bool) (k a2 : Nat) (bd : Bool) (xs : List Sp) : Prop :=
  xs.length = k ∧ (bd = false → b1 = false ∧ pRep (gSpan okQ) L k a1 = some (xs, a2)) ∧ (bd = true → b1 = true ∨ pRep (gSpan okQ) L m a1 = none)
set_option maxHeartbeats 2000000 in
set_option maxRecDepth 100000 in
theorem qspans_any {w : World} {r : Nat} {A : Option Addr} {n c : Nat} {L : List UInt8} {a : Nat} {bad : Bool} (h : QSt w r A n c L a bad) (h9 : n ≤ 4000000000000) :
    Calls Try.prog 74 #[.pointer (some ⟨r, 0, none⟩)] w (QList (QSpV w.heap.size n) w r A n c L (pTake (gSpan okQ) L a) bad) := by
  obtain ⟨i0, hi, hz0, hz1, hz2⟩ := info_parts Try.infoSpan
  have C1 := Lib.hid (qcount_any h)
  have hl := h.len
  have HBK := Lib.hid h.blk
  have hrl := h.lt
  have hsp := qCount_spec (gSpan okQ) L a bad
  obtain ⟨q, hq⟩ : ∃ q, qCount L a bad = q := ⟨_, rfl⟩
  rw [hq] at C1 hsp
  clear hq h
  obtain ⟨m, a1, b1⟩ := q
  simp only at hsp
  have hm : m ≤ n := by
    cases b1
    · have := (hsp.2 rfl).2.1; omega
    · have := (hsp.1 rfl).1; omega
  have HSP := Lib.hid hsp
  clear hsp
  go_enter Try.func74, Try.ntmps74
  go_wp2_with fail
  refine C1.out.mono ?_
  rintro e w1 ⟨rfl, h1, f1⟩
  have H1 := Lib.hid h1
  have F1 := Lib.hid f1
  clear h1 f1 C1
  go_wp2
  go_loopw [3, 5] (fun v i wr => ∃ (k a2 : Nat) (bd : Bool) (xs : List Sp), i = .int .i64 (k : Int) ∧ k ≤ m ∧ Hid (QLoop L m a1 b1 k a2 bd xs) ∧ Hid (∀ x ∈ xs, wfSp x) ∧ Hid (wr.ownsRow w.heap.size 55 3 v k (spV xs)) ∧ Hid (QSt wr r A n c L a2 bd) ∧ Hid (Fr (fun i => i = r) w wr)) (fun _ i _ => m - (intOf i).toNat)
  case atStart => exact ⟨0, a1, b1, [], rfl, Nat.zero_le _, ⟨rfl, fun h => ⟨h, rfl⟩, fun h => .inl h⟩, Lib.hid (by simp), World.ownsRow_nil _ _ _ _, H1, F1⟩
  case round =>
    obtain ⟨k, a2, bd, xs, rfl, hk, HL, HW, HO, HR, HF⟩ := hrel
    have cb := HR.out.c2
    by_cases hlt : k < m
    · cases bd with
      | true =>
        go_wp2
        go_ret
        refine ⟨_, xs, a2, true, rfl, ?_, HR.out, HF.out, ⟨fun h => (by cases h), fun _ => ?_⟩⟩
        · have h := HO.out
          have hl := HL.out.1
          rw [← hl] at h
          exact ⟨h, HW.out, by omega⟩
        · rcases HL.out.2.2 rfl with h1 | h1
          · exact (HSP.out.1 h1).2
          · cases hb : b1
            · exact .inr ((HSP.out.2 hb).2.2.trans h1)
            · exact (HSP.out.1 hb).2
      | false =>
        have C2 := Lib.hid (qnum_any HR.out)
        obtain ⟨q1, hq1⟩ : ∃ q, qNum L a2 false = q := ⟨_, rfl⟩
        rw [hq1] at C2
        obtain ⟨s, b1', bb1⟩ := q1
        have HQ1 := Lib.hid hq1
        clear hq1
        go_wp2_with fail
        refine C2.out.mono ?_
        rintro e w2 ⟨rfl, h2, f2⟩
        have C3 := Lib.hid (qnum_any h2)
        simp only at C3
        obtain ⟨q2, hq2⟩ : ∃ q, qNum L b1' bb1 = q := ⟨_, rfl⟩
        rw [hq2] at C3
        obtain ⟨f, b2', bb2⟩ := q2
        have HQ2 := Lib.hid hq2
        have hf0 := qNum_lt L b1' bb1
        rw [hq2] at hf0
        simp only at hf0
        have F2 := Lib.hid (HF.out.trans f2 fun _ h => .inl h)
        have O2 := Lib.hid (own_fr HO.out hrl f2)
        clear hq2 h2 f2 C2
        go_wp2_with fail
        refine C3.out.mono ?_
        rintro e w3 ⟨rfl, h3, f3⟩
        have C4 := Lib.hid (qnum_any h3)
        simp only at C4
        obtain ⟨q3, hq3⟩ : ∃ q, qNum L b2' bb2 = q := ⟨_, rfl⟩
        rw [hq3] at C4
        obtain ⟨y, b3', bb3⟩ := q3
        have HQ3 := Lib.hid hq3
        have hy0 := qNum_lt L b2' bb2
        rw [hq3] at hy0
        simp only at hy0
        have F3 := Lib.hid (F2.out.trans f3 fun _ h => .inl h)
        have O3 := Lib.hid (own_fr O2.out hrl f3)
        clear hq3 h3 f3 C3
        go_wp2_with fail
        refine C4.out.mono ?_
        rintro e w4 ⟨rfl, h4, f4⟩
        simp only at h4
        have F4 := Lib.hid (F3.out.trans f4 fun _ h => .inl h)
        have O4 := Lib.hid (own_fr O3.out hrl f4)
        have HR4 := Lib.hid h4
        have cb4 := h4.c2
        have fb4 := h4.fr 2
        have hs4 := F4.out.size
        have HSPn := Lib.hid (qSpan_spec L a2 s b1' f b2' y b3' bb1 bb2 bb3 HQ1.out HQ2.out HQ3.out)
        clear h4 f4 C4 cb
        by_cases hbig : 4611686018427387904 < f ∨ 4611686018427387904 < y
        · have HN := Lib.hid (pRep_stop (HL.out.2.1 rfl).2 (HSPn.out.1 hbig) hlt)
          have HE := Lib.hid HR4.out.setBad
          have hb1 := (HL.out.2.1 rfl).1
          have HT := Lib.hid ((HSP.out.2 hb1).2.2.trans HN.out)
          clear hb1
          have hcs : (decide ((4611686018427387904 : Int) < (f : Int)) = true) ∨ (decide ((4611686018427387904 : Int) < (f : Int)) = false ∧ decide ((4611686018427387904 : Int) < (y : Int)) = true) := by
            rw [decide_eq_true_eq, decide_eq_false_iff_not, decide_eq_true_eq]; omega
          clear hbig
          rcases hcs with g1 | ⟨g1, g2⟩
          all_goals
            go_wp2
            go_ret
            exact ⟨_, [], b3', true, rfl, ⟨World.ownsRow_nil _ _ _ _, by simp, by simp⟩, HE.out.1, F4.out.trans HE.out.2 fun _ h => .inl h, ⟨fun h => (by cases h), fun _ => .inr HT.out⟩⟩
        · have g1 : f ≤ 4611686018427387904 := by omega
          have g2 : y ≤ 4611686018427387904 := by omega
          clear hbig
          obtain ⟨t, ht⟩ : ∃ t, IntKind.i64.wrap ((f : Int) + (y : Int)) = t := ⟨_, rfl⟩
          have HT := Lib.hid (show wrap64 ((f : Int) + (y : Int)) = t from by rw [← IntWalk.i64_left]; exact ht)
          have d1 : decide ((4611686018427387904 : Int) < (f : Int)) = false := decide_eq_false (by omega)
          have d2 : decide ((4611686018427387904 : Int) < (y : Int)) = false := decide_eq_false (by omega)
          have hHO := HO.out
          go_wp2_with (first
            | (at_builtin; refine wpList_append_sl _ rfl (.tmp 38) (.tmp 45) 51 rfl (w.heap.size) 55 i0 (.agg #[.int .i64 0, .int .i64 0, .int .i64 0]) 3 24 Try.underlying51 hi hz0 hz1 hz2 rfl (by decide) (_) (k) (spV xs) rfl ((O4.out.alloc _)) (some ⟨w4.heap.size, 0, none⟩) (1) (1) ([.int .i64 (s : Int), .int .i64 (f : Int), .int .i64 t]) rfl (sl_lit _ _ _ _ 1 3 _ rfl rfl rfl) ((spV_one [((s : Int), (f : Int), t)])) (by unfold maxLen; omega) (by omega) (by simp; omega) ?_)
            | fail)
          intro v5 w5 own5 g5 _
          have hG := O4.out.alloc (.cells #[.int .i64 (s : Int), .int .i64 (f : Int), .int .i64 t] 55)
          have b5 : Below w.heap.size w4 w5 := ((Below.refl _ w4).alloc hs4 _).grown g5 (by simp; omega) (fun q hq => (hG.lt q hq).1)
          have HF5 := Lib.hid (fr_grown (F4.out.trans (Fr.alloc (fun i => i = r) w4 _) fun _ h => .inl h) hG g5)
          have HR5 := Lib.hid (HR4.out.moveB hrl HBK.out b5)
          have HO5 := Lib.hid (show w5.ownsRow w.heap.size 55 3 v5 (k + 1) (spV (xs ++ [((s : Int), (f : Int), t)])) from by rw [spV_append]; exact own5)
          have hs0 := qNum_lt L a2 false
          rw [HQ1.out] at hs0
          simp only at hs0
          have HW5 := Lib.hid (show ∀ x ∈ xs ++ [((s : Int), (f : Int), t)], wfSp x from fun x hx => by
            rcases List.mem_append.1 hx with hx | hx
            · exact HW.out x hx
            · rw [List.mem_singleton.1 hx]; exact wfSp_read hs0 hf0 HT.out)
          have HL5 := Lib.hid (show QLoop L m a1 b1 (k + 1) b3' bb3 (xs ++ [((s : Int), (f : Int), t)]) from by
            have hL := HL.out
            have hN := HSPn.out.2 g1 g2
            rw [HT.out] at hN
            refine ⟨by rw [List.length_append, hL.1]; rfl, fun hb => ⟨(hL.2.1 rfl).1, pRep_step (hL.2.1 rfl).2 (hN.2 hb)⟩, fun hb => .inr (pRep_stop (hL.2.1 rfl).2 (hN.1 hb) hlt)⟩)
          clear own5 g5 hG b5 ht
          go_wp2
          go_roundw
          case rel => exact ⟨k + 1, b3', bb3, _, by go_num, by omega, HL5, HW5, HO5, HR5, HF5⟩
          case measure => simp [intOf]; omega
    · obtain rfl : m = k := by omega
      have HX := Lib.hid (show QRes (pTake (gSpan okQ) L a) bad xs a2 bd from by
        have hL := HL.out
        refine ⟨fun hb => ?_, fun hb => ?_⟩
        · obtain ⟨h1, h2⟩ := hL.2.1 hb
          exact ⟨(HSP.out.2 h1).1, (HSP.out.2 h1).2.2.trans h2⟩
        · rcases hL.2.2 hb with h1 | h1
          · exact (HSP.out.1 h1).2
          · cases hb1 : b1
            · exact .inr ((HSP.out.2 hb1).2.2.trans h1)
            · exact (HSP.out.1 hb1).2)
      have HV := Lib.hid HL.out.1
      go_wp2
      go_ret
      refine ⟨_, xs, a2, bd, rfl, ?_, HR.out, HF.out, HX.out⟩
      have h := HO.out
      have hl := HV.out
      rw [← hl] at h
      exact ⟨h, HW.out, by omega⟩
end Go.Proofs.Ytgnedaihchmoaaa
