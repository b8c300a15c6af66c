/-
  The document's reader in plain Lean: a reading that goes on although something was bad. No program is looked at here.
-/
import Derived.Test.YtgnedaihchmoaaaCodeRefRead
import Derived.Test.YtgnedaihchmoaaaMD
namespace Go.Proofs.Ytgnedaihchmoaaa
open Go.RowKit
set_option linter.unusedVariables false

/-- What is known of an answer o: y, unless something was bad already. -/
def QG {β : Type} (o : Option β) (bad : Bool) (y : Option β) : Prop := (bad = false → o = y) ∧ (bad = true → o = none)
section
variable {α β : Type} {p : List UInt8 → Nat → Option (α × Nat)} {k : α → Nat → Option β} {L : List UInt8} {o y : Option β} {bad bad' : Bool} {a a' : Nat} {x : α}
theorem QG.step (h : QG o bad (bindP p k L a)) (hq : QRes (p L a) bad x a' bad') : QG o bad' (k x a') := by
  refine ⟨fun hb => ?_, fun hb => ?_⟩
  · obtain ⟨h1, h2⟩ := hq.1 hb
    exact (h.1 h1).trans (bindP_yes h2)
  · rcases hq.2 hb with h1 | h1
    · exact h.2 h1
    · cases hbb : bad
      · exact (h.1 hbb).trans (bindP_no h1)
      · exact h.2 hbb
theorem QG.spoil (h : QG o bad none) : QG o true y := ⟨fun h => (by cases h), fun _ => by
  cases hb : bad
  · exact h.1 hb
  · exact h.2 hb⟩
theorem QG.to (h : QG o bad y) {z : Option β} (e : y = z) : QG o bad z := e ▸ h
/-- The answer at the start: nothing, if something was bad. -/
def startO (o : Option β) (bad : Bool) : Option β := if bad then none else o
theorem QG.start (o : Option β) (bad : Bool) : QG (startO o bad) bad o := by
  cases bad
  · exact ⟨fun _ => rfl, fun h => (by cases h)⟩
  · exact ⟨fun h => (by cases h), fun _ => rfl⟩
end
theorem QG.res {α : Type} {o : Option (α × Nat)} {bad bad' : Bool} {x : α} {a' : Nat} (h : QG (startO o bad) bad' (some (x, a'))) : QRes o bad x a' bad' := by
  refine ⟨fun hb => ?_, fun hb => ?_⟩
  · have h1 := h.1 hb
    cases bad
    · exact ⟨rfl, h1⟩
    · cases h1
  · have h1 := h.2 hb
    cases bad
    · exact .inr h1
    · exact .inl rfl
/-! ### A list -/
section
variable {α β : Type} {p : List UInt8 → Nat → Option (α × Nat)} {k : List α → Nat → Option β} {L : List UInt8} {o : Option β} {bad : Bool} {a : Nat}
theorem QG.count (h : QG o bad (bindP (pTake p) k L a)) : QG o (qCount L a bad).2.2 (bindP (fun M b => pRep p M (qCount L a bad).1 b) k L (qCount L a bad).2.1) := by
  have hs := qCount_spec p L a bad
  refine ⟨fun hb => ?_, fun hb => ?_⟩
  · obtain ⟨h1, h2, h3⟩ := hs.2 hb
    rw [h.1 h1]
    unfold bindP
    rw [h3]
  · rcases (hs.1 hb).2 with h1 | h1
    · exact h.2 h1
    · cases hbb : bad
      · exact (h.1 hbb).trans (bindP_no h1)
      · exact h.2 hbb
/-- Where a loop over things to be read stands. -/
def QL (p : List UInt8 → Nat → Option (α × Nat)) (k : List α → Nat → Option β) (L : List UInt8) (o : Option β) (m a1 : Nat) (bd : Bool) (j a2 : Nat) (xs : List α) : Prop :=
  xs.length = j ∧ (bd = false → o = bindP (fun L b => pRep p L m b) k L a1 ∧ pRep p L j a1 = some (xs, a2)) ∧ (bd = true → o = none)
variable {m a1 a2 a3 j : Nat} {bd bd' : Bool} {xs : List α} {x : α}
theorem QL.start (h : QG o bd (bindP (fun L b => pRep p L m b) k L a1)) : QL p k L o m a1 bd 0 a1 [] := ⟨rfl, fun hb => ⟨h.1 hb, rfl⟩, h.2⟩
theorem QL.step (h : QL p k L o m a1 false j a2 xs) (hj : j < m) (hq : QRes (p L a2) false x a3 bd') : QL p k L o m a1 bd' (j + 1) a3 (xs ++ [x]) := by
  obtain ⟨h0, h1, h2⟩ := h
  obtain ⟨e1, e2⟩ := h1 rfl
  refine ⟨by rw [List.length_append, h0]; rfl, fun hb => ⟨e1, pRep_step e2 (hq.1 hb).2⟩, fun hb => ?_⟩
  rcases hq.2 hb with q | q
  · cases q
  · rw [e1]
    exact bindP_no (p := fun L b => pRep p L m b) (pRep_stop e2 q hj)
theorem QL.fin (h : QL p k L o m a1 bd m a2 xs) : QG o bd (k xs a2) :=
  ⟨fun hb => (h.2.1 hb).1.trans (bindP_yes (p := fun L b => pRep p L m b) (h.2.1 hb).2), h.2.2⟩
theorem QL.spoilt (h : QL p k L o m a1 true j a2 xs) : QG o true (k xs a2) := ⟨fun h => (by cases h), fun _ => h.2.2 rfl⟩
end
/-- What a reading of one thing leaves. -/
def QOne {α : Type} (R : World → α → Value → Prop) (w : World) (r : Nat) (A : Option Addr) (n c : Nat) (L : List UInt8) (o : Option (α × Nat)) (bad : Bool) (e : Ending) (w' : World) : Prop :=
  ∃ v x a' bad', e = .returned v ∧ R w' x v ∧ QSt w' r A n c L a' bad' ∧ Fr (fun i => i = r) w w' ∧ QRes o bad x a' bad'
def QIntV (_ : World) (x : Int) (v : Value) : Prop := v = .int .i64 x ∧ 0 ≤ x ∧ x < 9223372036854775808
def QNatV (_ : World) (x : Nat) (v : Value) : Prop := v = .int .i64 (x : Int) ∧ x < 9223372036854775808
def QTextV (_ : World) (x : ByteArray) (v : Value) : Prop := v = .string x ∧ x.size ≤ 140737488351232
section
variable {w : World} {r : Nat} {A : Option Addr} {n c : Nat} {L : List UInt8} {a : Nat} {bad : Bool}
theorem QSt.setOther {w1 : World} {b j : Nat} (h : QSt w1 r A n c L a bad) (hb : b ≠ r) (hA : ∀ b' off s, 0 < n → A = some ⟨b', off, s⟩ → b' ≠ b) (u : Value) : QSt (w1.setCell ⟨b, j, none⟩ u) r A n c L a bad :=
  ⟨(Below.heap_setCell w1 ⟨b, j, none⟩ u r (fun e => hb e.symm)).trans h.box, Sl.keepB h.sl fun b' off hn e => Below.heap_setCell w1 ⟨b, j, none⟩ u b' (hA b' off none (by omega) e), h.far, h.le, h.cap, h.size⟩
theorem qnum_nat (h : QSt w r A n c L a bad) : Calls Try.prog 57 #[.pointer (some ⟨r, 0, none⟩)] w (QOne QNatV w r A n c L (pNum L a) bad) := by
  refine (qnum_any h).mono ?_
  rintro e w' ⟨rfl, h1, h2⟩
  exact ⟨_, _, _, _, rfl, ⟨rfl, qNum_lt L a bad⟩, h1, h2, qNum_res L a bad⟩
theorem qnum_int (h : QSt w r A n c L a bad) : Calls Try.prog 57 #[.pointer (some ⟨r, 0, none⟩)] w (QOne QIntV w r A n c L (gInt L a) bad) := by
  refine (qnum_any h).mono ?_
  rintro e w' ⟨rfl, h1, h2⟩
  have hl := qNum_lt L a bad
  have hr := qNum_res L a bad
  refine ⟨_, ((qNum L a bad).1 : Int), _, _, rfl, ⟨rfl, by omega, by omega⟩, h1, h2, ⟨fun hb => ⟨(hr.1 hb).1, gInt_yes (hr.1 hb).2⟩, fun hb => ?_⟩⟩
  rcases hr.2 hb with q | q
  · exact .inl q
  · exact .inr (gInt_no q)
end
end Go.Proofs.Ytgnedaihchmoaaa
