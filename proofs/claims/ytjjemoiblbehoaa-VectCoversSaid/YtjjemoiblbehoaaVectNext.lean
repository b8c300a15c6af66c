/-
  vect.Next, vect.At, vect.Covers and the document's.
-/
import Derived.Test.YtjjemoiblbehoaaVectRight
namespace Go.Proofs.Ytjjemoiblbehoaa
open Go.RowKit
set_option linter.unusedVariables false

/-- A site's next dot, and the error's number. -/
def nextOf (l : List Int) (s : Int) : Int × Int × Int :=
  if rightB l = false ∨ s < 1 ∨ (l.length : Int) < s then (0, 0, 1)
  else if l.getD (s.toNat - 1) 0 = 4611686018427387904 then (0, 0, 40)
  else (s, l.getD (s.toNat - 1) 0 + 1, 0)
def NextAns (w : World) (t : Int × Int × Int) (e : Ending) (w' : World) : Prop :=
  e = .returned (.tuple #[.agg #[.int .i64 t.1, .int .i64 t.2.1], .int .i64 t.2.2]) ∧ Below w.heap.size w w'

theorem nextOf_at {l : List Int} {m : Nat} {z : Int} (hr : rightB l = true) (h1 : 1 ≤ m) (h2 : m ≤ l.length) (hz : l[m - 1]? = some z) :
    nextOf l (m : Int) = if z = 4611686018427387904 then (0, 0, 40) else ((m : Int), z + 1, 0) := by
  have e : l.getD ((m : Int).toNat - 1) 0 = z := by rw [Int.toNat_natCast, List.getD_eq_getElem?_getD, hz]; rfl
  unfold nextOf
  rw [if_neg (by rintro (h | h | h) <;> first | omega | (rw [hr] at h; cases h)), e]

set_option maxHeartbeats 1000000 in
set_option maxRecDepth 100000 in
theorem next_any (A : Option Addr) (n c : Nat) (l : List Int) (s : Int) (w : World) (hs : SlI w A n l) (hn : n ≤ 140737488351232) :
    Calls Try.prog 23 #[.slice A n c, .int .i64 s] w (NextAns w (nextOf l s)) := by
  have hll := hs.len
  have C1 := Lib.hid (right_any A n c l (w.alloc (.cells #[.int .i64 0, .int .i64 0] 31)) (Sl.alloc hs _) hn)
  cases hr : rightB l
  · rw [hr] at C1
    have HF := Lib.hid (show nextOf l s = (0, 0, 1) by unfold nextOf; rw [if_pos (.inl hr)])
    go_enter Try.func23, Try.ntmps23
    go_wp2_with fail
    refine C1.out.mono ?_
    rintro e w' ⟨rfl, rfl⟩
    go_wp2
    exact bodyPost_ret (v := .tuple #[.agg #[.int .i64 0, .int .i64 0], .int .i64 1]) (by simp [results, Try.results23, go_sem]) rfl ⟨by rw [HF.out], (Below.refl _ _).alloc (Nat.le_refl _) _⟩
  · rw [hr] at C1
    have Hr := Lib.hid hr
    clear hr
    rcases (show s < 1 ∨ (1 ≤ s ∧ (n : Int) < s) ∨ (1 ≤ s ∧ s ≤ (n : Int)) by omega) with h1 | ⟨h1, h2⟩ | ⟨h1, h2⟩
    · have HF := Lib.hid (show nextOf l s = (0, 0, 1) by unfold nextOf; rw [if_pos (by omega)])
      go_enter Try.func23, Try.ntmps23
      go_wp2_with fail
      refine C1.out.mono ?_
      rintro e w' ⟨rfl, rfl⟩
      go_wp2
      exact bodyPost_ret (v := .tuple #[.agg #[.int .i64 0, .int .i64 0], .int .i64 1]) (by simp [results, Try.results23, go_sem]) rfl ⟨by rw [HF.out], (Below.refl _ _).alloc (Nat.le_refl _) _⟩
    · have HF := Lib.hid (show nextOf l s = (0, 0, 1) by unfold nextOf; rw [if_pos (by omega)])
      go_enter Try.func23, Try.ntmps23
      go_wp2_with fail
      refine C1.out.mono ?_
      rintro e w' ⟨rfl, rfl⟩
      go_wp2
      exact bodyPost_ret (v := .tuple #[.agg #[.int .i64 0, .int .i64 0], .int .i64 1]) (by simp [results, Try.results23, go_sem]) rfl ⟨by rw [HF.out], (Below.refl _ _).alloc (Nat.le_refl _) _⟩
    · obtain ⟨m, rfl⟩ := Int.eq_ofNat_of_zero_le (show 0 ≤ s by omega)
      have h1 : 1 ≤ m := by omega
      have h2 : m ≤ n := by omega
      obtain ⟨b, off, z, rfl, hz, hc0⟩ := SlI.at_ (Sl.alloc hs (.cells #[.int .i64 0, .int .i64 0] 31)) (k := m - 1) (by omega)
      have hzb := (right_true Hr.out).2.2 z (List.mem_of_getElem? hz)
      obtain ⟨hzb0, hzb1⟩ := hzb
      have HN := Lib.hid (nextOf_at Hr.out h1 (by omega) hz)
      clear hz
      by_cases hM : z = 4611686018427387904
      · have HF := Lib.hid (show nextOf l (m : Int) = (0, 0, 40) by rw [HN.out, if_pos hM])
        have hb : (z == 4611686018427387904) = true := by rw [hM]; rfl
        have hM := Lib.hid hM
        go_enter Try.func23, Try.ntmps23
        go_wp2_with fail
        refine C1.out.mono ?_
        rintro e w' ⟨rfl, rfl⟩
        go_wp2
        exact bodyPost_ret (v := .tuple #[.agg #[.int .i64 0, .int .i64 0], .int .i64 40]) (by simp [results, Try.results23, go_sem]) rfl ⟨by rw [HF.out], (Below.refl _ _).alloc (Nat.le_refl _) _⟩
      · have HF := Lib.hid (show nextOf l (m : Int) = ((m : Int), z + 1, 0) by rw [HN.out, if_neg hM])
        have hb : (z == 4611686018427387904) = false := beq_eq_false_iff_ne.2 hM
        go_enter Try.func23, Try.ntmps23
        go_wp2_with fail
        refine C1.out.mono ?_
        rintro e w' ⟨rfl, rfl⟩
        go_wp2
        exact bodyPost_ret (v := .tuple #[.agg #[.int .i64 (m : Int), .int .i64 (z + 1)], .int .i64 0]) (by simp [results, Try.results23, go_sem]) rfl ⟨by rw [HF.out], (Below.refl _ _).alloc (Nat.le_refl _) _⟩

set_option maxHeartbeats 1000000 in
set_option maxRecDepth 100000 in
theorem refAt_in (A : Option Addr) (n c m : Nat) (z : Int) (l : List Int) (w : World) (hs : SlI w A n l) (h1 : 1 ≤ m) (h2 : m ≤ n) (hn : n ≤ 140737488351232) (hz : l[m - 1]? = some z) :
    Calls Try.prog 18 #[.slice A n c, .int .i64 (m : Int)] w fun e w' => e = .returned (.int .i64 z) ∧ w = w' := by
  obtain ⟨b, off, z', rfl, hz', hc⟩ := hs.at_ (k := m - 1) (by omega)
  rw [hz] at hz'
  injection hz' with hz'
  subst hz'
  clear hz
  go_enter Try.func18, Try.ntmps18
  go_wp2
  go_loop [5] (fun i => ∃ k : Nat, i = .int .i64 (k : Int) ∧ k ≤ m - 1) (fun i => m - (intOf i).toNat)
  case atStart => exact ⟨0, rfl, Nat.zero_le _⟩
  case round =>
    obtain ⟨k, rfl, hk⟩ := hrel
    by_cases hlt : k < m - 1
    · have hb : ((k : Int) == (m : Int) - 1) = false := beq_eq_false_iff_ne.2 (by omega)
      go_wp2
      go_round
      case rel => exact ⟨k + 1, by go_num, by omega⟩
      case measure => simp [intOf]; omega
    · obtain rfl : k = m - 1 := by omega
      have hb : (((m - 1 : Nat) : Int) == (m : Int) - 1) = true := beq_iff_eq.2 (by omega)
      go_wp2
      go_ret
      exact ⟨rfl, rfl⟩

set_option maxHeartbeats 1000000 in
set_option maxRecDepth 100000 in
theorem refNext_any (A : Option Addr) (n c : Nat) (l : List Int) (s : Int) (w : World) (hs : SlI w A n l) (hn : n ≤ 140737488351232) :
    Calls Try.prog 24 #[.slice A n c, .int .i64 s] w (NextAns w (nextOf l s)) := by
  have hll := hs.len
  have C1 := Lib.hid (refRight_any A n c l (w.alloc (.cells #[.int .i64 0, .int .i64 0] 31)) (Sl.alloc hs _) hn)
  cases hr : rightB l
  · rw [hr] at C1
    have HF := Lib.hid (show nextOf l s = (0, 0, 1) by unfold nextOf; rw [if_pos (.inl hr)])
    go_enter Try.func24, Try.ntmps24
    go_wp2_with fail
    refine C1.out.mono ?_
    rintro e w' ⟨rfl, rfl⟩
    go_wp2
    exact bodyPost_ret (v := .tuple #[.agg #[.int .i64 0, .int .i64 0], .int .i64 1]) (by simp [results, Try.results24, go_sem]) rfl ⟨by rw [HF.out], (Below.refl _ _).alloc (Nat.le_refl _) _⟩
  · rw [hr] at C1
    have Hr := Lib.hid hr
    clear hr
    rcases (show s < 1 ∨ (1 ≤ s ∧ (n : Int) < s) ∨ (1 ≤ s ∧ s ≤ (n : Int)) by omega) with h1 | ⟨h1, h2⟩ | ⟨h1, h2⟩
    · have HF := Lib.hid (show nextOf l s = (0, 0, 1) by unfold nextOf; rw [if_pos (by omega)])
      go_enter Try.func24, Try.ntmps24
      go_wp2_with fail
      refine C1.out.mono ?_
      rintro e w' ⟨rfl, rfl⟩
      go_wp2
      exact bodyPost_ret (v := .tuple #[.agg #[.int .i64 0, .int .i64 0], .int .i64 1]) (by simp [results, Try.results24, go_sem]) rfl ⟨by rw [HF.out], (Below.refl _ _).alloc (Nat.le_refl _) _⟩
    · have HF := Lib.hid (show nextOf l s = (0, 0, 1) by unfold nextOf; rw [if_pos (by omega)])
      go_enter Try.func24, Try.ntmps24
      go_wp2_with fail
      refine C1.out.mono ?_
      rintro e w' ⟨rfl, rfl⟩
      go_wp2
      exact bodyPost_ret (v := .tuple #[.agg #[.int .i64 0, .int .i64 0], .int .i64 1]) (by simp [results, Try.results24, go_sem]) rfl ⟨by rw [HF.out], (Below.refl _ _).alloc (Nat.le_refl _) _⟩
    · obtain ⟨m, rfl⟩ := Int.eq_ofNat_of_zero_le (show 0 ≤ s by omega)
      have h1 : 1 ≤ m := by omega
      have h2 : m ≤ n := by omega
      obtain ⟨b, off, z, rfl, hz, hc0⟩ := SlI.at_ (Sl.alloc hs (.cells #[.int .i64 0, .int .i64 0] 31)) (k := m - 1) (by omega)
      have hzb := (right_true Hr.out).2.2 z (List.mem_of_getElem? hz)
      obtain ⟨hzb0, hzb1⟩ := hzb
      have HN := Lib.hid (nextOf_at Hr.out h1 (by omega) hz)
      have CA := Lib.hid (refAt_in _ n c m z l (w.alloc (.cells #[.int .i64 0, .int .i64 0] 31)) (Sl.alloc hs _) h1 h2 hn hz)
      clear hz
      by_cases hM : z = 4611686018427387904
      · have HF := Lib.hid (show nextOf l (m : Int) = (0, 0, 40) by rw [HN.out, if_pos hM])
        have hb : (z == 4611686018427387904) = true := by rw [hM]; rfl
        have hM := Lib.hid hM
        go_enter Try.func24, Try.ntmps24
        go_wp2_with fail
        refine C1.out.mono ?_
        rintro e w' ⟨rfl, rfl⟩
        go_wp2_with fail
        refine CA.out.mono ?_
        rintro e w' ⟨rfl, rfl⟩
        go_wp2
        exact bodyPost_ret (v := .tuple #[.agg #[.int .i64 0, .int .i64 0], .int .i64 40]) (by simp [results, Try.results24, go_sem]) rfl ⟨by rw [HF.out], (Below.refl _ _).alloc (Nat.le_refl _) _⟩
      · have HF := Lib.hid (show nextOf l (m : Int) = ((m : Int), z + 1, 0) by rw [HN.out, if_neg hM])
        have hb : (z == 4611686018427387904) = false := beq_eq_false_iff_ne.2 hM
        go_enter Try.func24, Try.ntmps24
        go_wp2_with fail
        refine C1.out.mono ?_
        rintro e w' ⟨rfl, rfl⟩
        go_wp2_with fail
        refine CA.out.mono ?_
        rintro e w' ⟨rfl, rfl⟩
        go_wp2
        exact bodyPost_ret (v := .tuple #[.agg #[.int .i64 (m : Int), .int .i64 (z + 1)], .int .i64 0]) (by simp [results, Try.results24, go_sem]) rfl ⟨by rw [HF.out], (Below.refl _ _).alloc (Nat.le_refl _) _⟩

end Go.Proofs.Ytjjemoiblbehoaa
