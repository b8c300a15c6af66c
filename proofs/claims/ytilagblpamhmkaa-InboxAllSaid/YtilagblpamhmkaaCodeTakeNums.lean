/-
  firth/code.take at numbers and hashes.
-/
import Derived.Test.YtilagblpamhmkaaMD
namespace Go.Proofs.Ytilagblpamhmkaa
open Go.RowKit
set_option linter.unusedVariables false

/-- Numbers in a row from a block on. -/
def OwnI (e : TypeId) (K : Int → Value) (B : Nat) (w : World) (xs : List Int) (v : Value) : Prop := w.ownsRow B e 1 v xs.length (xs.map K)
theorem rnum_g {w : World} {r : Nat} {A : Option Addr} {n c : Nat} {L : List UInt8} {a a1 : Nat} {x : Int} (h : RSt w r A n c L a) (hp : gInt L a = some (x, a1)) :
    Calls Try.prog 88 #[.pointer (some ⟨r, 0, none⟩)] w fun e w' => e = .returned (.int .i64 x) ∧ RSt w' r A n c L a1 ∧ Fr (fun i => i = r) w w' := by
  obtain ⟨k, rfl, hk⟩ := gInt_some hp
  exact rnum_yes h hk
theorem gInt_none {L : List UInt8} {a : Nat} (h : gInt L a = none) : pNum L a = none := by
  cases h1 : pNum L a with
  | none => rfl
  | some p => obtain ⟨k, b⟩ := p; rw [gInt_yes h1] at h; cases h
theorem rint_g {w : World} {r : Nat} {A : Option Addr} {n c : Nat} {L : List UInt8} {a a1 : Nat} {x : Int} (h : RSt w r A n c L a) (hp : gInt L a = some (x, a1)) :
    Calls Try.prog 89 #[.pointer (some ⟨r, 0, none⟩)] w fun e w' => e = .returned (.int .i64 x) ∧ RSt w' r A n c L a1 ∧ Fr (fun i => i = r) w w' := by
  obtain ⟨k, rfl, hk⟩ := gInt_some hp
  exact rint_yes h hk
end Go.Proofs.Ytilagblpamhmkaa
