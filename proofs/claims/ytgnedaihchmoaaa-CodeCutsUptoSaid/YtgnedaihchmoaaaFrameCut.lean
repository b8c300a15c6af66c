/-
  A frame that is cut off is too short. No program is looked at here.
-/
import Derived.Test.YtgnedaihchmoaaaFrameNext
namespace Go.Proofs.Ytgnedaihchmoaaa
set_option linter.unusedVariables false

/-- A number that is cut off is too short. -/
theorem rdN_short : ∀ (f u i acc j : Nat), i + f ≤ 8 → j < (putN f u).length → rdN ((putN f u).take j) i acc = .error 4 := by
  intro f
  induction f with
  | zero =>
    intro u i acc j hi hj
    have : j = 0 := by simp [putN] at hj; omega
    subst this
    simp [rdN]
  | succ f ih =>
    intro u i acc j hi hj
    rcases j with _ | j
    · simp [rdN]
    · unfold putN at hj ⊢
      split at hj
      · simp at hj
      · rename_i hu
        rw [if_neg hu]
        have hb : (UInt8.ofNat (u % 128 + 128)).toNat = u % 128 + 128 := byte_toNat _ (by omega)
        rw [List.take_succ_cons, rdN, if_neg (by rw [hb]; omega), if_neg (by rw [hb]; omega)]
        exact ih _ _ _ _ (by omega) (by simpa using hj)
theorem next_short {x : List UInt8} (hx : x.length ≤ 1048576) {l : List UInt8} {at_ j : Nat} (h : l.drop at_ = (putF x).take j) (hj : j < (putF x).length) : nextF l at_ = .error 4 := by
  have hF := putF_len x
  have hpl := putNum_len (x.length : Int)
  by_cases hk : j < (putNum (x.length : Int)).length
  · have e : (putF x).take j = (putN 8 x.length).take j := by
      unfold putF
      rw [List.append_assoc, List.take_append_of_le_length (by omega)]
      simp [putNum]
    unfold nextF rdNum
    rw [h, e, rdN_short 8 _ _ _ _ (by omega) (by simpa [putNum] using hk)]
  · have e : (putF x).take j = putN 8 x.length ++ (le4 (sumB (putNum x.length ++ x)) ++ x).take (j - (putNum (x.length : Int)).length) := by
      unfold putF
      rw [List.append_assoc, List.take_append, List.take_of_length_le (by omega)]
      simp [putNum]
    have hr : rdNum (l.drop at_) = .ok (x.length, (putNum (x.length : Int)).length) := by
      rw [h, e, rdNum_putNum _ (by omega)]
      simp [putNum]
    have hl : l.length - at_ = j := by
      have := congrArg List.length h
      simp at this
      omega
    unfold nextF
    rw [hr]
    simp only
    rw [if_neg (by omega), if_pos (by omega)]
end Go.Proofs.Ytgnedaihchmoaaa
