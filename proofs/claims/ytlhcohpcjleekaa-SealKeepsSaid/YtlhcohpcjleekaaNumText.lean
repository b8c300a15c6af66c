/-
  num.Text and firthref01.Text read a text.
-/
import Derived.Test.YtlhcohpcjleekaaNumReadAll
import Derived.OpenShut
namespace Go.Proofs.Ytlhcohpcjleekaa
open Go.RowKit
set_option linter.unusedVariables false

/-- What is read of the bytes l at a place as a text of at most 'most' bytes: the text, the place behind it, the error's number. -/
def textOf (l : List UInt8) (at_ : Nat) (most : Int) : ByteArray × Int × Int :=
  match rdNum (l.drop at_) with
  | .error x => (ByteArray.empty, 0, x)
  | .ok (m, k) =>
    if max most 0 < (m : Int) then (ByteArray.empty, 0, 3)
    else if l.length < at_ + k + m then (ByteArray.empty, 0, 4)
    else (⟨((l.drop (at_ + k)).take m).toArray⟩, (at_ : Int) + k + m, 0)
def textVal (t : ByteArray × Int × Int) : Value := .tuple #[.string t.1, .int .i64 t.2.1, .int .i64 t.2.2]
def TextAns (w : World) (t : ByteArray × Int × Int) (e : Ending) (w' : World) : Prop := e = .returned (textVal t) ∧ w = w'

theorem SlB.part {w : World} {b off n from_ m : Nat} {l : List UInt8} (hs : SlB w (some ⟨b, off, none⟩) n l) (h : from_ + m ≤ n) : SlB w (some ⟨b, off + from_, none⟩) m ((l.drop from_).take m) := by
  have hl := hs.len
  refine ⟨by rw [bsV_length, List.length_take, List.length_drop]; omega, fun hm => ⟨b, off + from_, rfl, fun j u hu => ?_⟩⟩
  simp only [bsV, List.getElem?_map, List.getElem?_take, List.getElem?_drop, Option.map_eq_some_iff] at hu
  obtain ⟨y, hy, rfl⟩ := hu
  split at hy
  · obtain ⟨b', off', e, hc⟩ := hs.2 (by omega)
    injection e with e
    injection e with e1 e2
    subst e1 e2
    rw [Nat.add_assoc]
    exact hc (from_ + j) _ (by simp [bsV, hy])
  · cases hy

end Go.Proofs.Ytlhcohpcjleekaa
