/-
  Frames one behind the other, and what is left of them where they are cut off. No program is looked at here.
-/
import Derived.Test.YtoeeiancbiaajaaFrameAllsWalk
namespace Go.Proofs.Ytoeeiancbiaajaa
set_option linter.unusedVariables false

/-- A number that is cut off is too short. -/
theorem rdN_short : ∀ (f u i acc j : Nat), i + f ≤ 8 → j < (putN f u).length → rdN ((putN f u).take j) i acc = .error 4 := by
  intro f
  induction f with
  | zero =>
    intro u i acc j hi hj
    have : j = 0 := by simp [putN] at hj; omega
    subst this
    simp [rdN]
  | succ f ih =>
    intro u i acc j hi hj
    rcases j with _ | j
    · simp [rdN]
    · unfold putN at hj ⊢
      split at hj
      · simp at hj
      · rename_i hu
        rw [if_neg hu]
        have hb : (UInt8.ofNat (u % 128 + 128)).toNat = u % 128 + 128 := byte_toNat _ (by omega)
        rw [List.take_succ_cons, rdN, if_neg (by rw [hb]; omega), if_neg (by rw [hb]; omega)]
        exact ih _ _ _ _ (by omega) (by simpa using hj)
theorem next_short {x : List UInt8} (hx : x.length ≤ 1048576) {l : List UInt8} {at_ j : Nat} (h : l.drop at_ = (putF x).take j) (hj : j < (putF x).length) : nextF l at_ = .error 4 := by
  have hF := putF_len x
  have hpl := putNum_len (x.length : Int)
  by_cases hk : j < (putNum (x.length : Int)).length
  · have e : (putF x).take j = (putN 8 x.length).take j := by
      unfold putF
      rw [List.append_assoc, List.take_append_of_le_length (by omega)]
      simp [putNum]
    unfold nextF rdNum
    rw [h, e, rdN_short 8 _ _ _ _ (by omega) (by simpa [putNum] using hk)]
  · have e : (putF x).take j = putN 8 x.length ++ (le4 (sumB (putNum x.length ++ x)) ++ x).take (j - (putNum (x.length : Int)).length) := by
      unfold putF
      rw [List.append_assoc, List.take_append, List.take_of_length_le (by omega)]
      simp [putNum]
    have hr : rdNum (l.drop at_) = .ok (x.length, (putNum (x.length : Int)).length) := by
      rw [h, e, rdNum_putNum _ (by omega)]
      simp [putNum]
    have hl : l.length - at_ = j := by
      have := congrArg List.length h
      simp at this
      omega
    unfold nextF
    rw [hr]
    simp only
    rw [if_neg (by omega), if_pos (by omega)]

/-- The frames of what is put one behind the other. -/
def putAll (ls : List (List UInt8)) : List UInt8 := ls.flatMap putF
theorem putAll_snoc (ls : List (List UInt8)) (x : List UInt8) : putAll (ls ++ [x]) = putAll ls ++ putF x := by simp [putAll]
theorem putAll_take {ls : List (List UInt8)} {k : Nat} {x : List UInt8} (h : ls[k]? = some x) : putAll (ls.take (k + 1)) = putAll (ls.take k) ++ putF x := by
  rw [List.take_add_one, h]
  exact putAll_snoc _ _
theorem putAll_split (ls : List (List UInt8)) (k : Nat) : putAll ls = putAll (ls.take k) ++ putAll (ls.drop k) := by
  unfold putAll
  rw [← List.flatMap_append, List.take_append_drop]
theorem went_pre (b : List UInt8) (ls : List (List UInt8)) (rest : List UInt8) (h : b = putAll ls ++ rest) (hs : ∀ x, x ∈ ls → x.length ≤ 1048576) : ∃ xs, Went b xs (putAll ls).length ∧ xs.map (·.l) = ls := by
  obtain ⟨n, hn⟩ : ∃ n, ls.length = n := ⟨_, rfl⟩
  induction n generalizing ls rest with
  | zero =>
    obtain rfl := List.length_eq_zero_iff.1 hn
    exact ⟨[], .nil, rfl⟩
  | succ n ih =>
    rcases List.eq_nil_or_concat ls with rfl | ⟨L, x, rfl⟩
    · simp at hn
    · try rw [List.concat_eq_append] at *
      rw [putAll_snoc, List.append_assoc] at h
      obtain ⟨xs, hw, hm⟩ := ih L _ h (fun y hy => hs y (by simp [hy])) (by simpa using hn)
      have hx := hs x (by simp)
      have hd : b.drop (putAll L).length = putF x ++ rest := by rw [h, List.drop_left]
      have hF := putF_len x
      have hpl := putNum_len (x.length : Int)
      have hbl : b.length = (putAll L).length + (putF x).length + rest.length := by rw [h]; simp; omega
      have hn := nextF_put hx b rest _ hd (by omega)
      refine ⟨xs ++ [⟨none, 0, 0, x, (putAll L).length + (putF x).length⟩], ?_, by simp [hm]⟩
      have := Went.snoc (x := (⟨none, 0, 0, x, (putAll L).length + (putF x).length⟩ : Fr)) hw (by omega) hn
      rw [putAll_snoc, List.length_append]
      exact this
theorem endFr_all (ls : List (List UInt8)) (hs : ∀ x, x ∈ ls → x.length ≤ 1048576) : ∃ xs, EndFr (putAll ls) xs (putAll ls).length 0 ∧ xs.map (·.l) = ls := by
  obtain ⟨xs, hw, hm⟩ := went_pre (putAll ls) ls [] (by simp) hs
  exact ⟨xs, ⟨hw, .inl ⟨Nat.le_refl _, rfl⟩⟩, hm⟩
/-- What is cut off within the frame m: the frames ahead of it, and 'too short'. -/
theorem endFr_cut (ls : List (List UInt8)) (hs : ∀ x, x ∈ ls → x.length ≤ 1048576) (m c : Nat) (hm : m ≤ ls.length) (h1 : (putAll (ls.take m)).length ≤ c) (h2 : m < ls.length → c < (putAll (ls.take (m + 1))).length) (hc : c ≤ (putAll ls).length) :
    ∃ xs er, EndFr ((putAll ls).take c) xs (putAll (ls.take m)).length er ∧ xs.map (·.l) = ls.take m ∧ ((er = 0 ∧ (putAll (ls.take m)).length = c) ∨ (er = 4 ∧ (putAll (ls.take m)).length ≠ c)) := by
  have e : (putAll ls).take c = putAll (ls.take m) ++ (putAll (ls.drop m)).take (c - (putAll (ls.take m)).length) := by
    conv => lhs; rw [putAll_split ls m]
    rw [List.take_append, List.take_of_length_le h1]
  obtain ⟨xs, hw, hx⟩ := went_pre _ _ _ e (fun x hx => hs x (List.mem_of_mem_take hx))
  have hcl : ((putAll ls).take c).length = c := by simp; omega
  by_cases heq : (putAll (ls.take m)).length = c
  · exact ⟨xs, 0, ⟨hw, .inl ⟨by omega, rfl⟩⟩, hx, .inl ⟨rfl, heq⟩⟩
  · have hml : m < ls.length := by
      rcases Nat.lt_or_ge m ls.length with h | h
      · exact h
      · rw [List.take_of_length_le h] at heq h1
        omega
    have hxm : ls[m]? = some ls[m] := List.getElem?_eq_getElem hml
    have h3 := h2 hml
    rw [putAll_take hxm, List.length_append] at h3
    have hd : ((putAll ls).take c).drop (putAll (ls.take m)).length = (putF ls[m]).take (c - (putAll (ls.take m)).length) := by
      rw [e, List.drop_left, List.drop_eq_getElem_cons hml]
      show (putF ls[m] ++ putAll (ls.drop (m + 1))).take _ = _
      rw [List.take_append_of_le_length (by omega)]
    exact ⟨xs, 4, ⟨hw, .inr ⟨by omega, next_short (hs _ (List.getElem_mem hml)) hd (by omega)⟩⟩, hx, .inr ⟨rfl, heq⟩⟩
/-- Where the frames end. -/
def endsOf (ls : List (List UInt8)) : List Int := (List.range ls.length).map fun j => ((putAll (ls.take (j + 1))).length : Int)
theorem endsOf_len (ls : List (List UInt8)) : (endsOf ls).length = ls.length := by simp [endsOf]
theorem endsOf_at {ls : List (List UInt8)} {j : Nat} (h : j < ls.length) : (endsOf ls)[j]? = some ((putAll (ls.take (j + 1))).length : Int) := by simp [endsOf, h]
theorem endsOf_take {ls : List (List UInt8)} {k : Nat} (h : k < ls.length) : endsOf (ls.take (k + 1)) = endsOf (ls.take k) ++ [((putAll (ls.take (k + 1))).length : Int)] := by
  unfold endsOf
  rw [List.length_take, List.length_take, Nat.min_eq_left (by omega), Nat.min_eq_left (by omega), List.range_succ, List.map_append]
  congr 1
  · refine List.map_congr_left fun j hj => ?_
    have := List.mem_range.1 hj
    rw [List.take_take, List.take_take, Nat.min_eq_left (by omega), Nat.min_eq_left (by omega)]
  · simp [List.take_take]
theorem putAll_bound (ls : List (List UInt8)) : (putAll ls).length ≤ 13 * (ls.map fun x => x.length + 1).sum := by
  induction ls with
  | nil => simp [putAll]
  | cons x r ih =>
    have hF := putF_len x
    have hpl := putNum_len (x.length : Int)
    have : (putAll (x :: r)).length = (putF x).length + (putAll r).length := by simp [putAll]
    rw [this, List.map_cons, List.sum_cons]
    omega
theorem putAll_take_le (ls : List (List UInt8)) (k : Nat) : (putAll (ls.take k)).length ≤ (putAll ls).length := by
  conv => rhs; rw [putAll_split ls k]
  simp
theorem putAll_take_mono (ls : List (List UInt8)) {j k : Nat} (h : j ≤ k) : (putAll (ls.take j)).length ≤ (putAll (ls.take k)).length := by
  have := putAll_take_le (ls.take k) j
  rwa [List.take_take, Nat.min_eq_left h] at this
theorem short_of_sum {ls : List (List UInt8)} {B : Nat} (h : (ls.map fun x => x.length + 1).sum ≤ B) : ∀ x, x ∈ ls → x.length + 1 ≤ B := by
  induction ls generalizing B with
  | nil => simp
  | cons y r ih =>
    rw [List.map_cons, List.sum_cons] at h
    intro x hx
    rcases List.mem_cons.1 hx with rfl | hx
    · omega
    · have := ih (B := B) (by omega) x hx
      omega
end Go.Proofs.Ytoeeiancbiaajaa
