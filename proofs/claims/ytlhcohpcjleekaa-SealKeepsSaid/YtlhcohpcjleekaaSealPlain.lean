/-
  Layer 13 in plain Lean: tokens. No program is looked at here.
-/
import Derived.Test.YtlhcohpcjleekaaSealMark
import Derived.Test.YtlhcohpcjleekaaCodeRefSet
import Derived.Test.YtlhcohpcjleekaaCodeRefWrite
namespace Go.Proofs.Ytlhcohpcjleekaa
open Go.RowKit
set_option linter.unusedVariables false

def mayB (s : ByteArray) (g : Int) : Bool := decide (1 ≤ s.size) && (decide (s.size ≤ 64) && decide (0 ≤ g))
theorem mayB_true {s : ByteArray} {g : Int} : mayB s g = true ↔ 1 ≤ s.size ∧ s.size ≤ 64 ∧ 0 ≤ g := by unfold mayB; simp
theorem mayB_false {s : ByteArray} {g : Int} (h : ¬ (1 ≤ s.size ∧ s.size ≤ 64 ∧ 0 ≤ g)) : mayB s g = false := by
  cases hm : mayB s g
  · rfl
  · exact absurd (mayB_true.1 hm) h
/-- A token without its mark. -/
def bodyB (g : Int) (l : List Sp) : List UInt8 := [1] ++ putNum g ++ setB l
noncomputable def sealE (s : ByteArray) (g : Int) (l : List Sp) : List UInt8 × Int := if mayB s g = true ∧ rightS l = true then (bodyB g l ++ markB s (bodyB g l), 0) else ([], 1)
/-- What is read of bytes whose mark lies apart. -/
noncomputable def innerR (b : List UInt8) : Option (Nat × List Sp) :=
  match b with
  | [] => none
  | x :: r => if x = 1 then match rdNum r with
      | .ok (g, k) => match setR okP (r.drop k) with | some l => some (g, l) | none => none
      | .error _ => none
    else none
noncomputable def openE (s : ByteArray) (g : Int) (b : List UInt8) : List Sp × Int :=
  if mayB s g = false then ([], 1) else if b.length = 0 then ([], 0) else if b.length < 9 then ([], 130)
  else match innerR (b.take (b.length - 8)) with
    | none => ([], 130)
    | some (g', l) => if (g' : Int) ≠ g then ([], 131) else if b.drop (b.length - 8) ≠ markB s (b.take (b.length - 8)) then ([], 132) else (l, 0)
theorem innerR_some {b : List UInt8} {g : Nat} {l : List Sp} : innerR b = some (g, l) ↔ g < 9223372036854775808 ∧ rightS l = true ∧ b = bodyB (g : Int) l := by
  cases b with
  | nil => unfold innerR bodyB; simp
  | cons x r =>
    constructor
    · intro h
      unfold innerR at h
      simp only at h
      split at h
      · rename_i hx
        subst hx
        split at h
        · rename_i g' k hr
          split at h
          · rename_i l' hs
            simp only [Option.some.injEq, Prod.mk.injEq] at h
            obtain ⟨rfl, rfl⟩ := h
            obtain ⟨h1, h2, h3, h4, h5⟩ := rdNum_ok hr
            obtain ⟨h6, h7⟩ := (setR_iff okP_small _ _).1 hs
            refine ⟨h4, h6, ?_⟩
            unfold bodyB putNum
            rw [Int.toNat_natCast, ← h5, ← h7, List.append_assoc, List.take_append_drop]
            rfl
          · cases h
        · cases h
      · cases h
    · rintro ⟨hg, hr, hb⟩
      unfold bodyB putNum at hb
      rw [Int.toNat_natCast, List.append_assoc, List.singleton_append] at hb
      injection hb with hb1 hb2
      subst hb1 hb2
      unfold innerR
      simp only [if_true]
      rw [rdNum_putNum g hg]
      simp only
      rw [List.drop_left, (setR_iff okP_small _ _).2 ⟨hr, rfl⟩]
end Go.Proofs.Ytlhcohpcjleekaa
