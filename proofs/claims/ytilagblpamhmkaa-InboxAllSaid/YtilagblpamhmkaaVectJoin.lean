/-
  vect.Join and firthref04.Join take the greater counts.
-/
import Derived.Test.YtilagblpamhmkaaMV
namespace Go.Proofs.Ytilagblpamhmkaa
open Go.RowKit
set_option linter.unusedVariables false

theorem Try.infoI64 : (Try.prog.info? 2).map (fun i => (i.zero, i.size, i.bytes)) = some (some (.int .i64 0), 1, 8) := by kernel_rfl

/-- What a call leaves that answers new counts and an error's number: where there is an error there is no list. -/
def NewVec (w : World) (l : List Int) (x : Int) (e : Ending) (w' : World) : Prop :=
  ∃ A n c, e = .returned (.tuple #[.slice A n c, .int .i64 x]) ∧ SlI w' A n l ∧ n ≤ c ∧ w'.ownsRow w.heap.size 2 1 (.slice A n c) n (l.map (Value.int .i64)) ∧ Below w.heap.size w w'

theorem joinOk_parts {a b : List Int} (h : joinOk a b = true) : rightB a = true ∧ rightB b = true ∧ a.length = b.length := by
  simp only [joinOk, Bool.and_eq_true, decide_eq_true_eq] at h
  exact ⟨h.1.1, h.1.2, h.2⟩

theorem joined_push {wr : World} {g t : Nat} {l1 l2 : List Int} {k : Nat} {x y z : Int} (h : Arr wr g t 16 (((joinL l1 l2).take k).map (Value.int .i64)))
    (hz : (List.zipWith max l1 l2).take (k + 1) = (List.zipWith max l1 l2).take k ++ [max x y]) (hk : ((joinL l1 l2).take k).length = k) (hm : max x y = z) (h16 : k < 16) :
    Arr (wr.setCell ⟨g, k, none⟩ (.int .i64 z)) g t 16 (((joinL l1 l2).take (k + 1)).map (Value.int .i64)) := by
  have e : (joinL l1 l2).take (k + 1) = (joinL l1 l2).take k ++ [z] := by rw [← hm]; exact hz
  rw [e, List.map_append]
  exact h.push (by rw [List.length_map, hk]; exact h16) _ (by rw [List.length_map, hk])

theorem joined_snoc {l1 l2 : List Int} {k : Nat} {x y z : Int}
    (hz : (List.zipWith max l1 l2).take (k + 1) = (List.zipWith max l1 l2).take k ++ [max x y]) (hm : max x y = z) :
    ((joinL l1 l2).take (k + 1)).map (Value.int .i64) = ((joinL l1 l2).take k).map (Value.int .i64) ++ [.int .i64 z] := by
  have e : (joinL l1 l2).take (k + 1) = (joinL l1 l2).take k ++ [z] := by rw [← hm]; exact hz
  rw [e, List.map_append]; rfl

end Go.Proofs.Ytilagblpamhmkaa
