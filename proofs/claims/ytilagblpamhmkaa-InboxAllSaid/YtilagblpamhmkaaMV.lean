/-
  Layer 4 in plain Lean: vectors of counts. No program is looked at here.
  vect.Right and firthref04.Right tell whether a vector is right; firthref04.Same whether two are the same.
  vect.Covers and firthref04.Covers tell whether a dot is covered.
  vect.Next, vect.At, vect.Covers and the document's.
  vect.At, firthref04.At and firthref04.Covers.
  vect.Holds and firthref04.Holds tell whether a vector covers a set's last dots.
-/
import Derived.Test.YtilagblpamhmkaaMA
import Derived.Test.YtilagblpamhmkaaProg
import Derived.Deep.QuietTactic
import Derived.BigQuiet
import Derived.Laws.StructEq
import Derived.OpenShut
import Derived.Deep.RegionHeld3
namespace Go.Proofs.Ytilagblpamhmkaa

/-- A slice of 64-bit numbers. -/
def SlI (w : World) (A : Option Addr) (n : Nat) (zs : List Int) : Prop := Sl w A n 1 (zs.map (Value.int .i64))
theorem SlI.len {w : World} {A : Option Addr} {n : Nat} {l : List Int} (h : SlI w A n l) : l.length = n := by have := h.1; rw [List.length_map] at this; omega
theorem SlI.at_ {w : World} {A : Option Addr} {n k : Nat} {l : List Int} (h : SlI w A n l) (hk : k < n) :
    ∃ (b off : Nat) (z : Int), A = some ⟨b, off, none⟩ ∧ l[k]? = some z ∧ w.cell? ⟨b, off + k, none⟩ = some (.int .i64 z) := by
  obtain ⟨b, off, u, rfl, hx, hc⟩ := Sl.at1 h hk
  simp only [List.getElem?_map, Option.map_eq_some_iff] at hx
  obtain ⟨y, hy, rfl⟩ := hx
  exact ⟨b, off, y, rfl, hy, hc⟩
/-- The cell under a head that is known already. -/
theorem SlI.cell {w : World} {b off n k : Nat} {l : List Int} (h : SlI w (some ⟨b, off, none⟩) n l) (hk : k < n) :
    ∃ z : Int, l[k]? = some z ∧ w.cell? ⟨b, off + k, none⟩ = some (.int .i64 z) := by
  obtain ⟨b', off', z, e, hz, hc⟩ := h.at_ hk
  injection e with e
  injection e with e1 e2
  subst e1 e2
  exact ⟨z, hz, hc⟩

theorem ints_one (l : List Int) : ∀ u ∈ l.map (Value.int .i64), u.oneCell' = true := by
  intro u hu
  simp only [List.mem_map] at hu
  obtain ⟨b, _, rfl⟩ := hu
  rfl

def okB (z : Int) : Bool := decide (0 ≤ z) && decide (z ≤ 4611686018427387904)
def rightB (l : List Int) : Bool := decide (1 ≤ l.length) && decide (l.length ≤ 16) && l.all okB
/-- The first k counts are right. -/
def OkTo (l : List Int) (k : Nat) : Prop := (l.take k).all okB = true

theorem take_snoc_some {α : Type} {l : List α} {k : Nat} {z : α} (h : l[k]? = some z) : l.take (k + 1) = l.take k ++ [z] := by
  rw [List.take_add_one, h]; rfl
theorem OkTo.zero (l : List Int) : OkTo l 0 := by simp [OkTo]
theorem OkTo.step {l : List Int} {k : Nat} {z : Int} (h : OkTo l k) (hz : l[k]? = some z) (h0 : 0 ≤ z) (h1 : z ≤ 4611686018427387904) : OkTo l (k + 1) := by
  unfold OkTo at *
  rw [take_snoc_some hz, List.all_append, h]
  simp [okB, h0, h1]
theorem right_bad {l : List Int} {k : Nat} {z : Int} (hz : l[k]? = some z) (hb : z < 0 ∨ 4611686018427387904 < z) : rightB l = false := by
  have h : l.all okB = false := by
    rw [List.all_eq_false]
    exact ⟨z, List.mem_of_getElem? hz, by simp [okB]; omega⟩
  simp [rightB, h]
theorem OkTo.all {l : List Int} {n : Nat} (h : OkTo l n) (hn : l.length = n) : rightB l = (decide (1 ≤ n) && decide (n ≤ 16)) := by
  unfold OkTo at h
  rw [List.take_of_length_le (by omega)] at h
  unfold rightB
  rw [h, hn]
  simp
theorem right_short {l : List Int} (h : l.length ≤ 0 ∨ 16 < l.length) : rightB l = false := by
  rcases h with h | h
  · have : ¬ (1 ≤ l.length) := by omega
    simp only [rightB, this, decide_false, Bool.false_and]
  · have : ¬ (l.length ≤ 16) := by omega
    simp only [rightB, this, decide_false, Bool.false_and, Bool.and_false]
theorem right_true {l : List Int} (h : rightB l = true) : 1 ≤ l.length ∧ l.length ≤ 16 ∧ ∀ z ∈ l, 0 ≤ z ∧ z ≤ 4611686018427387904 := by
  simp only [rightB, okB, Bool.and_eq_true, decide_eq_true_eq, List.all_eq_true] at h
  exact ⟨h.1.1, h.1.2, h.2⟩

/-- Two vectors' greater counts. -/
def joinL (a b : List Int) : List Int := List.zipWith max a b
/-- What Join answers: the vector, and the error's number. -/
def joinOk (a b : List Int) : Bool := rightB a && rightB b && decide (a.length = b.length)

theorem zip_take {α β γ : Type} (f : α → β → γ) (a : List α) (b : List β) (k : Nat) {x : α} {y : β} (hx : a[k]? = some x) (hy : b[k]? = some y) :
    (List.zipWith f a b).take (k + 1) = (List.zipWith f a b).take k ++ [f x y] := take_snoc_some (by simp [List.getElem?_zipWith, hx, hy])

/-- Below says: right, as long, and nowhere above. -/
def belowB (a b : List Int) : Bool := joinOk a b && (List.zipWith (fun x y => decide (x ≤ y)) a b).all id

end Go.Proofs.Ytilagblpamhmkaa
namespace Go.Proofs.Ytilagblpamhmkaa
open Go.RowKit
set_option linter.unusedVariables false

set_option maxHeartbeats 400000 in
theorem right_any (A : Option Addr) (n c : Nat) (l : List Int) (w : World) (hs : SlI w A n l) (hn : n ≤ 140737488351232) :
    Calls Try.prog 60 #[.slice A n c] w fun e w' => e = .returned (.bool (rightB l)) ∧ w = w' := by
  have hll := hs.len
  go_enter Try.func60, Try.ntmps60
  go_wp2
  go_loop [7] (fun i => ∃ k : Nat, i = .int .i64 (k : Int) ∧ k ≤ n ∧ Hid (OkTo l k)) (fun i => n - (intOf i).toNat)
  case atStart => exact ⟨0, rfl, Nat.zero_le _, OkTo.zero l⟩
  case round =>
    obtain ⟨k, rfl, hk, Hok⟩ := hrel
    by_cases hlt : k < n
    · obtain ⟨b, off, z, rfl, hz, hc⟩ := hs.at_ hlt
      have Hz := Lib.hid hz
      clear hz
      rcases (show z < 0 ∨ 4611686018427387904 < z ∨ (0 ≤ z ∧ z ≤ 4611686018427387904) by omega) with h1 | h1 | ⟨h1, h2⟩
      · go_wp2
        go_ret
        exact ⟨retb (right_bad Hz.out (.inl h1)), rfl⟩
      · go_wp2
        go_ret
        exact ⟨retb (right_bad Hz.out (.inr h1)), rfl⟩
      · go_wp2
        go_round
        case rel => exact ⟨k + 1, by go_num, by omega, Hok.out.step Hz.out h1 h2⟩
        case measure => simp [intOf]; omega
    · obtain rfl : k = n := by omega
      have HR := Lib.hid (Hok.out.all hll)
      clear hll
      rcases (show k ≤ 0 ∨ (1 ≤ k ∧ k ≤ 16) ∨ (1 ≤ k ∧ 16 < k) by omega) with h1 | ⟨h1, h2⟩ | ⟨h1, h2⟩
      all_goals
        go_wp2
        go_ret
        exact ⟨retb (by rw [HR.out, Bool.eq_iff_iff, Bool.and_eq_true, decide_eq_true_iff, decide_eq_true_iff]; first | (rw [decide_eq_true_iff]; omega) | (constructor <;> intro h <;> first | omega | cases h)), rfl⟩

set_option maxHeartbeats 400000 in
theorem refRight_any (A : Option Addr) (n c : Nat) (l : List Int) (w : World) (hs : SlI w A n l) (hn : n ≤ 140737488351232) :
    Calls Try.prog 10 #[.slice A n c] w fun e w' => e = .returned (.bool (rightB l)) ∧ w = w' := by
  have hll := hs.len
  rcases (show n ≤ 0 ∨ 16 < n ∨ (1 ≤ n ∧ n ≤ 16) by omega) with h1 | h1 | ⟨h1, h2⟩
  · have HR := Lib.hid (right_short (l := l) (by omega))
    go_enter Try.func10, Try.ntmps10
    go_wp2
    go_ret
    exact ⟨retb HR.out, rfl⟩
  · have HR := Lib.hid (right_short (l := l) (by omega))
    have h0 : ((n : Int) == 0) = false := beq_eq_false_iff_ne.2 (by omega)
    go_enter Try.func10, Try.ntmps10
    go_wp2
    go_ret
    exact ⟨retb HR.out, rfl⟩
  · have h0 : ((n : Int) == 0) = false := beq_eq_false_iff_ne.2 (by omega)
    go_enter Try.func10, Try.ntmps10
    go_wp2
    go_loop [3] (fun i => ∃ k : Nat, i = .int .i64 (k : Int) ∧ k ≤ n ∧ Hid (OkTo l k)) (fun i => n - (intOf i).toNat)
    case atStart => exact ⟨0, rfl, Nat.zero_le _, OkTo.zero l⟩
    case round =>
      obtain ⟨k, rfl, hk, Hok⟩ := hrel
      by_cases hlt : k < n
      · obtain ⟨b, off, z, rfl, hz, hc⟩ := hs.at_ hlt
        have Hz := Lib.hid hz
        clear hz
        rcases (show z < 0 ∨ 4611686018427387904 < z ∨ (0 ≤ z ∧ z ≤ 4611686018427387904) by omega) with h1 | h1 | ⟨h1, h2⟩
        · go_wp2
          go_ret
          exact ⟨retb (right_bad Hz.out (.inl h1)), rfl⟩
        · go_wp2
          go_ret
          exact ⟨retb (right_bad Hz.out (.inr h1)), rfl⟩
        · go_wp2
          go_round
          case rel => exact ⟨k + 1, by go_num, by omega, Hok.out.step Hz.out h1 h2⟩
          case measure => simp [intOf]; omega
      · obtain rfl : k = n := by omega
        have HR := Lib.hid (Hok.out.all hll)
        go_wp2
        go_ret
        exact ⟨retb (by rw [HR.out]; simp; omega), rfl⟩

/-- Two lists are alike in their first k places. -/
def EqToV (a b : List Int) (k : Nat) : Prop := a.take k = b.take k
theorem EqToV.step {a b : List Int} {k : Nat} {x y : Int} (h : EqToV a b k) (hx : a[k]? = some x) (hy : b[k]? = some y) (e : x = y) : EqToV a b (k + 1) := by
  unfold EqToV at *
  rw [take_snoc_some hx, take_snoc_some hy, h, e]
theorem EqToV.ne {a b : List Int} {k : Nat} {x y : Int} (hx : a[k]? = some x) (hy : b[k]? = some y) (e : ¬ x = y) : (a == b) = false := by
  rw [beq_eq_false_iff_ne]
  rintro rfl
  rw [hx] at hy
  injection hy with hy
  exact e hy
theorem EqToV.all {a b : List Int} {n : Nat} (h : EqToV a b n) (ha : a.length = n) (hb : b.length = n) : (a == b) = true := by
  unfold EqToV at h
  rw [List.take_of_length_le (by omega), List.take_of_length_le (by omega)] at h
  rw [h]; simp

set_option maxHeartbeats 400000 in
theorem sameIv_any (A1 A2 : Option Addr) (n1 n2 c1 c2 : Nat) (l1 l2 : List Int) (w : World) (h1 : SlI w A1 n1 l1) (h2 : SlI w A2 n2 l2) (hn : n1 ≤ 140737488351232) :
    Calls Try.prog 19 #[.slice A1 n1 c1, .slice A2 n2 c2] w fun e w' => e = .returned (.bool (l1 == l2)) ∧ ∃ k, w' = w.drewN k := by
  have e1 := h1.len
  have e2 := h2.len
  by_cases he : n1 = n2
  · subst he
    go_enter Try.func19, Try.ntmps19
    go_wp2
    go_loopw [5] (fun i wr => ∃ k : Nat, i = .int .i64 (k : Int) ∧ k ≤ n1 ∧ Hid (EqToV l1 l2 k) ∧ ∃ d, wr = w.drewN d) (fun i _ => n1 - (intOf i).toNat)
    case atStart => exact ⟨0, rfl, Nat.zero_le _, rfl, 0, rfl⟩
    case round =>
      obtain ⟨k, rfl, hk, Hok, d, rfl⟩ := hrel
      by_cases hlt : k < n1
      · obtain ⟨b, off, x, rfl, hx, hc⟩ := h1.at_ hlt
        obtain ⟨b', off', y, rfl, hy, hc'⟩ := h2.at_ hlt
        have Hx := Lib.hid hx
        have Hy := Lib.hid hy
        clear hx hy
        have i0 : (0 : Int) ≤ (k : Int) := by omega
        have i1 : (k : Int) < (n1 : Int) := by omega
        by_cases hxy : x = y
        · have hb : (x != y) = false := by simp [hxy]
          go_wp2
          go_quiet (fail)
          go_wp2
          go_roundw
          case rel => exact ⟨k + 1, by go_num, by omega, Hok.out.step Hx.out Hy.out hxy, _, rfl⟩
          case measure => simp [intOf]; omega
        · have hb : (x != y) = true := by simp [hxy]
          go_wp2
          go_quiet (fail)
          go_wp2
          go_ret
          exact ⟨retb (EqToV.ne Hx.out Hy.out hxy), _, by rw [World.drewN_drewN]⟩
      · obtain rfl : k = n1 := by omega
        go_wp2
        go_ret
        exact ⟨retb (Hok.out.all e1 e2), d, rfl⟩
  · have HF := Lib.hid (show (l1 == l2) = false by rw [beq_eq_false_iff_ne]; rintro rfl; exact he (e1.symm.trans e2))
    have hb : ((n1 : Int) != (n2 : Int)) = true := by simp; omega
    go_enter Try.func19, Try.ntmps19
    go_wp2
    go_ret
    exact ⟨retb HF.out, 0, rfl⟩
end Go.Proofs.Ytilagblpamhmkaa
namespace Go.Proofs.Ytilagblpamhmkaa
open Go.RowKit
set_option linter.unusedVariables false

/-- A dot is covered. -/
def coversB (l : List Int) (s n : Int) : Bool := decide (1 ≤ s) && decide (s ≤ (l.length : Int)) && decide (1 ≤ n) && decide (n ≤ l.getD (s.toNat - 1) 0)

theorem covers_no {l : List Int} {s n : Int} (h : s < 1 ∨ (l.length : Int) < s ∨ n < 1) : coversB l s n = false := by
  unfold coversB
  rcases h with h | h | h
  · rw [decide_eq_false (show ¬ 1 ≤ s by omega)]; rfl
  · rw [decide_eq_false (show ¬ s ≤ (l.length : Int) by omega)]; simp
  · rw [decide_eq_false (show ¬ 1 ≤ n by omega)]; simp
theorem covers_at {l : List Int} {m : Nat} {z n : Int} (h1 : 1 ≤ m) (h2 : m ≤ l.length) (hz : l[m - 1]? = some z) (h3 : 1 ≤ n) : coversB l (m : Int) n = decide (n ≤ z) := by
  have e : l.getD ((m : Int).toNat - 1) 0 = z := by rw [Int.toNat_natCast, List.getD_eq_getElem?_getD, hz]; rfl
  unfold coversB
  rw [e, decide_eq_true (show (1 : Int) ≤ (m : Int) by omega), decide_eq_true (show (m : Int) ≤ (l.length : Int) by omega), decide_eq_true h3]
  simp

set_option maxHeartbeats 1000000 in
set_option maxRecDepth 100000 in
theorem covers_any (A : Option Addr) (n c : Nat) (l : List Int) (s d : Int) (w : World) (hs : SlI w A n l) (hn : n ≤ 140737488351232) (hs0 : -9223372036854775808 ≤ s) :
    Calls Try.prog 32 #[.slice A n c, .agg #[.int .i64 s, .int .i64 d]] w fun e w' => e = .returned (.bool (coversB l s d)) ∧ Below w.heap.size w w' := by
  have hll := hs.len
  have hB : ∀ k, Below w.heap.size w ((w.alloc (.cells #[.int .i64 s, .int .i64 d] 39)).drewN k) := fun k => below_drewN ((Below.refl _ _).alloc (Nat.le_refl _) _) k
  by_cases g1 : 1 ≤ s
  · have q1 : decide (1 ≤ s) = true := by simp; omega
    by_cases g2 : s ≤ (n : Int)
    · obtain ⟨m, rfl⟩ := Int.eq_ofNat_of_zero_le (show 0 ≤ s by omega)
      have q2 : decide (m ≤ n) = true := by simp; omega
      have h1 : 1 ≤ m := by omega
      have h2 : m ≤ n := by omega
      by_cases g3 : 1 ≤ d
      · have q3 : decide (1 ≤ d) = true := by simp; omega
        obtain ⟨b, off, z, rfl, hz, hc0⟩ := SlI.at_ (Sl.alloc hs (.cells #[.int .i64 (m : Int), .int .i64 d] 39)) (k := m - 1) (by omega)
        have HF := Lib.hid (covers_at (n := d) h1 (by omega) hz g3)
        have j0 : (0 : Int) ≤ (m : Int) - 1 := by omega
        have j1 : (m : Int) - 1 < (n : Int) := by omega
        have j2 : ((m : Int) - 1).toNat = m - 1 := by omega
        have j3 : IntKind.i64.wrap ((m : Int) - 1) = (m : Int) - 1 := IntWalk.i64_in _ (by omega)
        clear hz
        go_enter Try.func32, Try.ntmps32
        go_wp2
        go_quiet (fail)
        go_wp2
        go_ret
        exact ⟨retb HF.out, hB _⟩
      · have HF := Lib.hid (covers_no (l := l) (s := (m : Int)) (n := d) (by omega))
        have q3 : decide (1 ≤ d) = false := by simp; omega
        go_enter Try.func32, Try.ntmps32
        go_wp2
        go_quiet (fail)
        go_wp2
        go_ret
        exact ⟨retb HF.out, hB _⟩
    · have HF := Lib.hid (covers_no (l := l) (s := s) (n := d) (by omega))
      have q2 : decide (s ≤ (n : Int)) = false := by simp; omega
      go_enter Try.func32, Try.ntmps32
      go_wp2
      go_quiet (fail)
      go_wp2
      go_ret
      exact ⟨retb HF.out, hB _⟩
  · have HF := Lib.hid (covers_no (l := l) (s := s) (n := d) (by omega))
    have q1 : decide (1 ≤ s) = false := by simp; omega
    go_enter Try.func32, Try.ntmps32
    go_wp2
    go_quiet (fail)
    go_wp2
    go_ret
    exact ⟨retb HF.out, hB _⟩
end Go.Proofs.Ytilagblpamhmkaa
namespace Go.Proofs.Ytilagblpamhmkaa
open Go.RowKit
set_option linter.unusedVariables false

/-- A site's next dot, and the error's number. -/
def nextOf (l : List Int) (s : Int) : Int × Int × Int :=
  if rightB l = false ∨ s < 1 ∨ (l.length : Int) < s then (0, 0, 1)
  else if l.getD (s.toNat - 1) 0 = 4611686018427387904 then (0, 0, 40)
  else (s, l.getD (s.toNat - 1) 0 + 1, 0)
def NextAns (w : World) (t : Int × Int × Int) (e : Ending) (w' : World) : Prop :=
  e = .returned (.tuple #[.agg #[.int .i64 t.1, .int .i64 t.2.1], .int .i64 t.2.2]) ∧ Below w.heap.size w w'

theorem nextOf_at {l : List Int} {m : Nat} {z : Int} (hr : rightB l = true) (h1 : 1 ≤ m) (h2 : m ≤ l.length) (hz : l[m - 1]? = some z) :
    nextOf l (m : Int) = if z = 4611686018427387904 then (0, 0, 40) else ((m : Int), z + 1, 0) := by
  have e : l.getD ((m : Int).toNat - 1) 0 = z := by rw [Int.toNat_natCast, List.getD_eq_getElem?_getD, hz]; rfl
  unfold nextOf
  rw [if_neg (by rintro (h | h | h) <;> first | omega | (rw [hr] at h; cases h)), e]

set_option maxHeartbeats 1000000 in
set_option maxRecDepth 100000 in
theorem next_any (A : Option Addr) (n c : Nat) (l : List Int) (s : Int) (w : World) (hs : SlI w A n l) (hn : n ≤ 140737488351232) :
    Calls Try.prog 50 #[.slice A n c, .int .i64 s] w (NextAns w (nextOf l s)) := by
  have hll := hs.len
  have C1 := Lib.hid (right_any A n c l (w.alloc (.cells #[.int .i64 0, .int .i64 0] 39)) (Sl.alloc hs _) hn)
  cases hr : rightB l
  · rw [hr] at C1
    have HF := Lib.hid (show nextOf l s = (0, 0, 1) by unfold nextOf; rw [if_pos (.inl hr)])
    go_enter Try.func50, Try.ntmps50
    go_wp2_with fail
    refine C1.out.mono ?_
    rintro e w' ⟨rfl, rfl⟩
    go_wp2
    exact bodyPost_ret (v := .tuple #[.agg #[.int .i64 0, .int .i64 0], .int .i64 1]) (by simp [results, Try.results50, go_sem]) rfl ⟨by rw [HF.out], (Below.refl _ _).alloc (Nat.le_refl _) _⟩
  · rw [hr] at C1
    have Hr := Lib.hid hr
    clear hr
    rcases (show s < 1 ∨ (1 ≤ s ∧ (n : Int) < s) ∨ (1 ≤ s ∧ s ≤ (n : Int)) by omega) with h1 | ⟨h1, h2⟩ | ⟨h1, h2⟩
    · have HF := Lib.hid (show nextOf l s = (0, 0, 1) by unfold nextOf; rw [if_pos (by omega)])
      go_enter Try.func50, Try.ntmps50
      go_wp2_with fail
      refine C1.out.mono ?_
      rintro e w' ⟨rfl, rfl⟩
      go_wp2
      exact bodyPost_ret (v := .tuple #[.agg #[.int .i64 0, .int .i64 0], .int .i64 1]) (by simp [results, Try.results50, go_sem]) rfl ⟨by rw [HF.out], (Below.refl _ _).alloc (Nat.le_refl _) _⟩
    · have HF := Lib.hid (show nextOf l s = (0, 0, 1) by unfold nextOf; rw [if_pos (by omega)])
      go_enter Try.func50, Try.ntmps50
      go_wp2_with fail
      refine C1.out.mono ?_
      rintro e w' ⟨rfl, rfl⟩
      go_wp2
      exact bodyPost_ret (v := .tuple #[.agg #[.int .i64 0, .int .i64 0], .int .i64 1]) (by simp [results, Try.results50, go_sem]) rfl ⟨by rw [HF.out], (Below.refl _ _).alloc (Nat.le_refl _) _⟩
    · obtain ⟨m, rfl⟩ := Int.eq_ofNat_of_zero_le (show 0 ≤ s by omega)
      have h1 : 1 ≤ m := by omega
      have h2 : m ≤ n := by omega
      obtain ⟨b, off, z, rfl, hz, hc0⟩ := SlI.at_ (Sl.alloc hs (.cells #[.int .i64 0, .int .i64 0] 39)) (k := m - 1) (by omega)
      have hzb := (right_true Hr.out).2.2 z (List.mem_of_getElem? hz)
      obtain ⟨hzb0, hzb1⟩ := hzb
      have HN := Lib.hid (nextOf_at Hr.out h1 (by omega) hz)
      clear hz
      by_cases hM : z = 4611686018427387904
      · have HF := Lib.hid (show nextOf l (m : Int) = (0, 0, 40) by rw [HN.out, if_pos hM])
        have hb : (z == 4611686018427387904) = true := by rw [hM]; rfl
        have hM := Lib.hid hM
        go_enter Try.func50, Try.ntmps50
        go_wp2_with fail
        refine C1.out.mono ?_
        rintro e w' ⟨rfl, rfl⟩
        go_wp2
        exact bodyPost_ret (v := .tuple #[.agg #[.int .i64 0, .int .i64 0], .int .i64 40]) (by simp [results, Try.results50, go_sem]) rfl ⟨by rw [HF.out], (Below.refl _ _).alloc (Nat.le_refl _) _⟩
      · have HF := Lib.hid (show nextOf l (m : Int) = ((m : Int), z + 1, 0) by rw [HN.out, if_neg hM])
        have hb : (z == 4611686018427387904) = false := beq_eq_false_iff_ne.2 hM
        go_enter Try.func50, Try.ntmps50
        go_wp2_with fail
        refine C1.out.mono ?_
        rintro e w' ⟨rfl, rfl⟩
        go_wp2
        exact bodyPost_ret (v := .tuple #[.agg #[.int .i64 (m : Int), .int .i64 (z + 1)], .int .i64 0]) (by simp [results, Try.results50, go_sem]) rfl ⟨by rw [HF.out], (Below.refl _ _).alloc (Nat.le_refl _) _⟩

set_option maxHeartbeats 1000000 in
set_option maxRecDepth 100000 in
theorem refAt_in (A : Option Addr) (n c m : Nat) (z : Int) (l : List Int) (w : World) (hs : SlI w A n l) (h1 : 1 ≤ m) (h2 : m ≤ n) (hn : n ≤ 140737488351232) (hz : l[m - 1]? = some z) :
    Calls Try.prog 40 #[.slice A n c, .int .i64 (m : Int)] w fun e w' => e = .returned (.int .i64 z) ∧ w = w' := by
  obtain ⟨b, off, z', rfl, hz', hc⟩ := hs.at_ (k := m - 1) (by omega)
  rw [hz] at hz'
  injection hz' with hz'
  subst hz'
  clear hz
  go_enter Try.func40, Try.ntmps40
  go_wp2
  go_loop [5] (fun i => ∃ k : Nat, i = .int .i64 (k : Int) ∧ k ≤ m - 1) (fun i => m - (intOf i).toNat)
  case atStart => exact ⟨0, rfl, Nat.zero_le _⟩
  case round =>
    obtain ⟨k, rfl, hk⟩ := hrel
    by_cases hlt : k < m - 1
    · have hb : ((k : Int) == (m : Int) - 1) = false := beq_eq_false_iff_ne.2 (by omega)
      go_wp2
      go_round
      case rel => exact ⟨k + 1, by go_num, by omega⟩
      case measure => simp [intOf]; omega
    · obtain rfl : k = m - 1 := by omega
      have hb : (((m - 1 : Nat) : Int) == (m : Int) - 1) = true := beq_iff_eq.2 (by omega)
      go_wp2
      go_ret
      exact ⟨rfl, rfl⟩

set_option maxHeartbeats 1000000 in
set_option maxRecDepth 100000 in
theorem refNext_any (A : Option Addr) (n c : Nat) (l : List Int) (s : Int) (w : World) (hs : SlI w A n l) (hn : n ≤ 140737488351232) :
    Calls Try.prog 18 #[.slice A n c, .int .i64 s] w (NextAns w (nextOf l s)) := by
  have hll := hs.len
  have C1 := Lib.hid (refRight_any A n c l (w.alloc (.cells #[.int .i64 0, .int .i64 0] 39)) (Sl.alloc hs _) hn)
  cases hr : rightB l
  · rw [hr] at C1
    have HF := Lib.hid (show nextOf l s = (0, 0, 1) by unfold nextOf; rw [if_pos (.inl hr)])
    go_enter Try.func18, Try.ntmps18
    go_wp2_with fail
    refine C1.out.mono ?_
    rintro e w' ⟨rfl, rfl⟩
    go_wp2
    exact bodyPost_ret (v := .tuple #[.agg #[.int .i64 0, .int .i64 0], .int .i64 1]) (by simp [results, Try.results18, go_sem]) rfl ⟨by rw [HF.out], (Below.refl _ _).alloc (Nat.le_refl _) _⟩
  · rw [hr] at C1
    have Hr := Lib.hid hr
    clear hr
    rcases (show s < 1 ∨ (1 ≤ s ∧ (n : Int) < s) ∨ (1 ≤ s ∧ s ≤ (n : Int)) by omega) with h1 | ⟨h1, h2⟩ | ⟨h1, h2⟩
    · have HF := Lib.hid (show nextOf l s = (0, 0, 1) by unfold nextOf; rw [if_pos (by omega)])
      go_enter Try.func18, Try.ntmps18
      go_wp2_with fail
      refine C1.out.mono ?_
      rintro e w' ⟨rfl, rfl⟩
      go_wp2
      exact bodyPost_ret (v := .tuple #[.agg #[.int .i64 0, .int .i64 0], .int .i64 1]) (by simp [results, Try.results18, go_sem]) rfl ⟨by rw [HF.out], (Below.refl _ _).alloc (Nat.le_refl _) _⟩
    · have HF := Lib.hid (show nextOf l s = (0, 0, 1) by unfold nextOf; rw [if_pos (by omega)])
      go_enter Try.func18, Try.ntmps18
      go_wp2_with fail
      refine C1.out.mono ?_
      rintro e w' ⟨rfl, rfl⟩
      go_wp2
      exact bodyPost_ret (v := .tuple #[.agg #[.int .i64 0, .int .i64 0], .int .i64 1]) (by simp [results, Try.results18, go_sem]) rfl ⟨by rw [HF.out], (Below.refl _ _).alloc (Nat.le_refl _) _⟩
    · obtain ⟨m, rfl⟩ := Int.eq_ofNat_of_zero_le (show 0 ≤ s by omega)
      have h1 : 1 ≤ m := by omega
      have h2 : m ≤ n := by omega
      obtain ⟨b, off, z, rfl, hz, hc0⟩ := SlI.at_ (Sl.alloc hs (.cells #[.int .i64 0, .int .i64 0] 39)) (k := m - 1) (by omega)
      have hzb := (right_true Hr.out).2.2 z (List.mem_of_getElem? hz)
      obtain ⟨hzb0, hzb1⟩ := hzb
      have HN := Lib.hid (nextOf_at Hr.out h1 (by omega) hz)
      have CA := Lib.hid (refAt_in _ n c m z l (w.alloc (.cells #[.int .i64 0, .int .i64 0] 39)) (Sl.alloc hs _) h1 h2 hn hz)
      clear hz
      by_cases hM : z = 4611686018427387904
      · have HF := Lib.hid (show nextOf l (m : Int) = (0, 0, 40) by rw [HN.out, if_pos hM])
        have hb : (z == 4611686018427387904) = true := by rw [hM]; rfl
        have hM := Lib.hid hM
        go_enter Try.func18, Try.ntmps18
        go_wp2_with fail
        refine C1.out.mono ?_
        rintro e w' ⟨rfl, rfl⟩
        go_wp2_with fail
        refine CA.out.mono ?_
        rintro e w' ⟨rfl, rfl⟩
        go_wp2
        exact bodyPost_ret (v := .tuple #[.agg #[.int .i64 0, .int .i64 0], .int .i64 40]) (by simp [results, Try.results18, go_sem]) rfl ⟨by rw [HF.out], (Below.refl _ _).alloc (Nat.le_refl _) _⟩
      · have HF := Lib.hid (show nextOf l (m : Int) = ((m : Int), z + 1, 0) by rw [HN.out, if_neg hM])
        have hb : (z == 4611686018427387904) = false := beq_eq_false_iff_ne.2 hM
        go_enter Try.func18, Try.ntmps18
        go_wp2_with fail
        refine C1.out.mono ?_
        rintro e w' ⟨rfl, rfl⟩
        go_wp2_with fail
        refine CA.out.mono ?_
        rintro e w' ⟨rfl, rfl⟩
        go_wp2
        exact bodyPost_ret (v := .tuple #[.agg #[.int .i64 (m : Int), .int .i64 (z + 1)], .int .i64 0]) (by simp [results, Try.results18, go_sem]) rfl ⟨by rw [HF.out], (Below.refl _ _).alloc (Nat.le_refl _) _⟩

end Go.Proofs.Ytilagblpamhmkaa
namespace Go.Proofs.Ytilagblpamhmkaa
open Go.RowKit
set_option linter.unusedVariables false

/-- A site's count. -/
def atIv (l : List Int) (s : Int) : Int := if 1 ≤ s ∧ s ≤ (l.length : Int) then l.getD (s.toNat - 1) 0 else 0
theorem atIv_no {l : List Int} {s : Int} (h : s < 1 ∨ (l.length : Int) < s) : atIv l s = 0 := by unfold atIv; rw [if_neg (by omega)]
theorem atIv_at {l : List Int} {m : Nat} {z : Int} (h1 : 1 ≤ m) (h2 : m ≤ l.length) (hz : l[m - 1]? = some z) : atIv l (m : Int) = z := by
  have e : l.getD ((m : Int).toNat - 1) 0 = z := by rw [Int.toNat_natCast, List.getD_eq_getElem?_getD, hz]; rfl
  unfold atIv
  rw [if_pos (by omega), e]

set_option maxHeartbeats 400000 in
set_option maxRecDepth 100000 in
theorem refAt_out (A : Option Addr) (n c : Nat) (l : List Int) (s : Int) (w : World) (hs : SlI w A n l) (hn : n ≤ 140737488351232) (h : s < 1 ∨ (n : Int) < s) (hs0 : -9223372036854775808 ≤ s) (hs1 : s ≤ 9223372036854775807) :
    Calls Try.prog 40 #[.slice A n c, .int .i64 s] w fun e w' => e = .returned (.int .i64 0) ∧ w = w' := by
  rcases (show s ≤ -9223372036854775808 ∨ -9223372036854775808 < s by omega) with hm | hm
  · obtain rfl : s = -9223372036854775808 := by omega
    clear h hs0 hs1 hm
    go_enter Try.func40, Try.ntmps40
    go_wp2
    go_loop [5] (fun i => ∃ k : Nat, i = .int .i64 (k : Int) ∧ k ≤ n) (fun i => n - (intOf i).toNat)
    case atStart => exact ⟨0, rfl, Nat.zero_le _⟩
    case round =>
      obtain ⟨k, rfl, hk⟩ := hrel
      by_cases hlt : k < n
      · have hb : ((k : Int) == wrap64 (-9223372036854775809)) = false := by rw [beq_eq_false_iff_ne]; unfold wrap64; omega
        go_wp2
        go_round
        case rel => exact ⟨k + 1, by go_num, by omega⟩
        case measure => simp [intOf]; omega
      · go_wp2
        go_ret
        exact ⟨rfl, rfl⟩
  · have hs2 : -9223372036854775807 ≤ s := by omega
    clear hs0 hm
    go_enter Try.func40, Try.ntmps40
    go_wp2
    go_loop [5] (fun i => ∃ k : Nat, i = .int .i64 (k : Int) ∧ k ≤ n) (fun i => n - (intOf i).toNat)
    case atStart => exact ⟨0, rfl, Nat.zero_le _⟩
    case round =>
      obtain ⟨k, rfl, hk⟩ := hrel
      by_cases hlt : k < n
      · have hb : ((k : Int) == s - 1) = false := beq_eq_false_iff_ne.2 (by omega)
        go_wp2
        go_round
        case rel => exact ⟨k + 1, by go_num, by omega⟩
        case measure => simp [intOf]; omega
      · go_wp2
        go_ret
        exact ⟨rfl, rfl⟩

theorem refAt_any (A : Option Addr) (n c : Nat) (l : List Int) (s : Int) (w : World) (hs : SlI w A n l) (hn : n ≤ 140737488351232) (hs0 : -9223372036854775808 ≤ s) (hs1 : s ≤ 9223372036854775807) :
    Calls Try.prog 40 #[.slice A n c, .int .i64 s] w fun e w' => e = .returned (.int .i64 (atIv l s)) ∧ w = w' := by
  have hll := hs.len
  by_cases h : s < 1 ∨ (n : Int) < s
  · rw [atIv_no (l := l) (by omega)]
    exact refAt_out A n c l s w hs hn h hs0 hs1
  · obtain ⟨m, rfl⟩ := Int.eq_ofNat_of_zero_le (show 0 ≤ s by omega)
    obtain ⟨b, off, z, e, hz, hc0⟩ := hs.at_ (k := m - 1) (by omega)
    rw [atIv_at (by omega) (by omega) hz]
    exact refAt_in A n c m z l w hs (by omega) (by omega) hn hz

set_option maxHeartbeats 1000000 in
set_option maxRecDepth 100000 in
theorem refCovers_in (A : Option Addr) (n c m : Nat) (l : List Int) (z d : Int) (w : World) (hs : SlI w A n l) (hn : n ≤ 140737488351232) (h1 : 1 ≤ m) (h2 : m ≤ n) (hz : l[m - 1]? = some z) :
    Calls Try.prog 16 #[.slice A n c, .agg #[.int .i64 (m : Int), .int .i64 d]] w fun e w' => e = .returned (.bool (decide (1 ≤ d) && decide (d ≤ z))) ∧ Below w.heap.size w w' := by
  have hB : ∀ k, Below w.heap.size w ((w.alloc (.cells #[.int .i64 (m : Int), .int .i64 d] 39)).drewN k) := fun k => below_drewN ((Below.refl _ _).alloc (Nat.le_refl _) _) k
  obtain ⟨b, off, z', rfl, hz', hc⟩ := SlI.at_ (Sl.alloc hs (.cells #[.int .i64 (m : Int), .int .i64 d] 39)) (k := m - 1) (by omega)
  rw [hz] at hz'
  injection hz' with hz'
  subst hz'
  clear hz
  go_enter Try.func16, Try.ntmps16
  go_wp2
  go_loop [5] (fun i => ∃ k : Nat, i = .int .i64 (k : Int) ∧ k ≤ m - 1) (fun i => m - (intOf i).toNat)
  case atStart => exact ⟨0, rfl, Nat.zero_le _⟩
  case round =>
    obtain ⟨k, rfl, hk⟩ := hrel
    by_cases hlt : k < m - 1
    · have hb : ((k : Int) == (m : Int) - 1) = false := beq_eq_false_iff_ne.2 (by omega)
      go_wp2
      go_round
      case rel => exact ⟨k + 1, by go_num, by omega⟩
      case measure => simp [intOf]; omega
    · obtain rfl : k = m - 1 := by omega
      have hb : (((m - 1 : Nat) : Int) == (m : Int) - 1) = true := beq_iff_eq.2 (by omega)
      have j0 : (0 : Int) ≤ ((m - 1 : Nat) : Int) := by omega
      have j1 : ((m - 1 : Nat) : Int) < (n : Int) := by omega
      by_cases hd : 1 ≤ d
      · have q1 : decide (0 < d) = true := by simp; omega
        go_wp2
        go_quiet (fail)
        go_wp2
        go_ret
        exact ⟨retb (by rw [decide_eq_true (show 1 ≤ d by omega)]; rfl), hB _⟩
      · have q1 : decide (0 < d) = false := by simp; omega
        go_wp2
        go_quiet (fail)
        go_wp2
        go_ret
        exact ⟨retb (by rw [decide_eq_false (show ¬ 1 ≤ d by omega)]; rfl), hB _⟩

set_option maxHeartbeats 400000 in
set_option maxRecDepth 100000 in
theorem refCovers_out (A : Option Addr) (n c : Nat) (l : List Int) (s d : Int) (w : World) (hs : SlI w A n l) (hn : n ≤ 140737488351232) (h : s < 1 ∨ (n : Int) < s) (hs0 : -9223372036854775808 ≤ s) (hs1 : s ≤ 9223372036854775807) :
    Calls Try.prog 16 #[.slice A n c, .agg #[.int .i64 s, .int .i64 d]] w fun e w' => e = .returned (.bool false) ∧ Below w.heap.size w w' := by
  rcases (show s ≤ -9223372036854775808 ∨ -9223372036854775808 < s by omega) with hm | hm
  · obtain rfl : s = -9223372036854775808 := by omega
    clear h hs0 hs1 hm
    go_enter Try.func16, Try.ntmps16
    go_wp2
    go_loop [5] (fun i => ∃ k : Nat, i = .int .i64 (k : Int) ∧ k ≤ n) (fun i => n - (intOf i).toNat)
    case atStart => exact ⟨0, rfl, Nat.zero_le _⟩
    case round =>
      obtain ⟨k, rfl, hk⟩ := hrel
      by_cases hlt : k < n
      · have hb : ((k : Int) == wrap64 (-9223372036854775809)) = false := by rw [beq_eq_false_iff_ne]; unfold wrap64; omega
        go_wp2
        go_round
        case rel => exact ⟨k + 1, by go_num, by omega⟩
        case measure => simp [intOf]; omega
      · go_wp2
        go_ret
        exact ⟨rfl, (Below.refl _ _).alloc (Nat.le_refl _) _⟩
  · have hs2 : -9223372036854775807 ≤ s := by omega
    clear hs0 hm
    go_enter Try.func16, Try.ntmps16
    go_wp2
    go_loop [5] (fun i => ∃ k : Nat, i = .int .i64 (k : Int) ∧ k ≤ n) (fun i => n - (intOf i).toNat)
    case atStart => exact ⟨0, rfl, Nat.zero_le _⟩
    case round =>
      obtain ⟨k, rfl, hk⟩ := hrel
      by_cases hlt : k < n
      · have hb : ((k : Int) == s - 1) = false := beq_eq_false_iff_ne.2 (by omega)
        go_wp2
        go_round
        case rel => exact ⟨k + 1, by go_num, by omega⟩
        case measure => simp [intOf]; omega
      · go_wp2
        go_ret
        exact ⟨rfl, (Below.refl _ _).alloc (Nat.le_refl _) _⟩

theorem refCovers_any (A : Option Addr) (n c : Nat) (l : List Int) (s d : Int) (w : World) (hs : SlI w A n l) (hn : n ≤ 140737488351232) (hs0 : -9223372036854775808 ≤ s) (hs1 : s ≤ 9223372036854775807) :
    Calls Try.prog 16 #[.slice A n c, .agg #[.int .i64 s, .int .i64 d]] w fun e w' => e = .returned (.bool (coversB l s d)) ∧ Below w.heap.size w w' := by
  have hll := hs.len
  by_cases h : s < 1 ∨ (n : Int) < s
  · rw [covers_no (l := l) (s := s) (n := d) (by omega)]
    exact refCovers_out A n c l s d w hs hn h hs0 hs1
  · obtain ⟨m, rfl⟩ := Int.eq_ofNat_of_zero_le (show 0 ≤ s by omega)
    obtain ⟨b, off, z, e, hz, hc0⟩ := hs.at_ (k := m - 1) (by omega)
    have hC : coversB l (m : Int) d = (decide (1 ≤ d) && decide (d ≤ z)) := by
      by_cases hd : 1 ≤ d
      · rw [covers_at (by omega) (by omega) hz hd, decide_eq_true hd]; rfl
      · rw [covers_no (by omega), decide_eq_false hd]; rfl
    rw [hC]
    exact refCovers_in A n c m l z d w hs hn (by omega) (by omega) hz
end Go.Proofs.Ytilagblpamhmkaa
namespace Go.Proofs.Ytilagblpamhmkaa
open Go.RowKit
set_option linter.unusedVariables false

/-- All spans' last dots are covered. -/
def holdsB (v : List Int) (l : List Sp) : Bool := l.all fun x => coversB v x.1 x.2.2
def HoldsTo (v : List Int) (l : List Sp) (k : Nat) : Prop := holdsB v (l.take k) = true
theorem HoldsTo.step {v : List Int} {l : List Sp} {k : Nat} {x y z : Int} (h : HoldsTo v l k) (hx : l[k]? = some (x, y, z)) (hc : coversB v x z = true) : HoldsTo v l (k + 1) := by
  have e : l.take (k + 1) = l.take k ++ [(x, y, z)] := by rw [List.take_add_one, hx]; rfl
  unfold HoldsTo holdsB at *
  rw [e, List.all_append, h]
  simp [hc]
theorem HoldsTo.no {v : List Int} {l : List Sp} {k : Nat} {x y z : Int} (hx : l[k]? = some (x, y, z)) (hc : coversB v x z = false) : holdsB v l = false := by
  unfold holdsB
  rw [List.all_eq_false]
  exact ⟨_, List.mem_of_getElem? hx, by simp [hc]⟩
theorem HoldsTo.all {v : List Int} {l : List Sp} {n : Nat} (h : HoldsTo v l n) (hn : l.length = n) : holdsB v l = true := by
  unfold HoldsTo at h
  rwa [List.take_of_length_le (by omega)] at h

set_option maxHeartbeats 1000000 in
set_option maxRecDepth 100000 in
theorem holds_any (A : Option Addr) (n c : Nat) (v : List Int) (A2 : Option Addr) (n2 c2 : Nat) (l : List Sp) (w : World) (hs : SlI w A n v) (hn : n ≤ 140737488351232) (h2 : SlS w A2 n2 l) (hn2 : n2 ≤ 140737488351232) (hwf : ∀ x ∈ l, wfSp x) :
    Calls Try.prog 51 #[.slice A n c, .slice A2 n2 c2] w fun e w' => e = .returned (.bool (holdsB v l)) ∧ Below w.heap.size w w' := by
  have hll := h2.len
  go_enter Try.func51, Try.ntmps51
  go_wp2
  go_loopw [9] (fun i wr => ∃ k : Nat, i = .int .i64 (k : Int) ∧ k ≤ n2 ∧ Hid (HoldsTo v l k) ∧ Below w.heap.size w wr) (fun i _ => n2 - (intOf i).toNat)
  case atStart => exact ⟨0, rfl, Nat.zero_le _, rfl, Below.refl _ _⟩
  case round =>
    obtain ⟨k, rfl, hk, Hok, hbel⟩ := hrel
    have hsz := hbel.size
    by_cases hlt : k < n2
    · obtain ⟨b, off, x, y, z, rfl, hx, hc0, hc1, hc2⟩ := SlS.at_ (Sl.below h2 hbel) hlt
      have Hx := Lib.hid hx
      have hw := hwf _ (List.mem_of_getElem? hx)
      have hb := bounds_i64 hw.1
      have CC := Lib.hid (fun W (hW : SlI W A n v) => covers_any A n c v x z W hW hn hb.1)
      clear hx hw hb hwf
      have S0 : SlI (wr.alloc (.cells #[.int .i64 x, .int .i64 y, .int .i64 z] 53)) A n v := Sl.alloc (Sl.below hs hbel) _
      have B0 : Below w.heap.size w (wr.alloc (.cells #[.int .i64 x, .int .i64 y, .int .i64 z] 53)) := hbel.alloc hsz _
      have C := Lib.hid (CC.out _ S0)
      cases hcv : coversB v x z
      · rw [hcv] at C
        have HF := Lib.hid (HoldsTo.no Hx.out hcv)
        clear hcv CC S0 hbel
        go_wp2_with fail
        refine C.out.mono ?_
        rintro e w1 ⟨rfl, b1⟩
        have B1 := B0.trans (b1.mono B0.size)
        clear b1 B0 C
        go_wp2
        go_ret
        exact ⟨retb HF.out, B1⟩
      · rw [hcv] at C
        have HT := Lib.hid (Hok.out.step Hx.out hcv)
        clear hcv CC S0 hbel
        go_wp2_with fail
        refine C.out.mono ?_
        rintro e w1 ⟨rfl, b1⟩
        have B1 := B0.trans (b1.mono B0.size)
        clear b1 B0 C
        go_wp2
        go_roundw
        case rel => exact ⟨k + 1, by go_num, by omega, HT.out, B1⟩
        case measure => simp [intOf]; omega
    · obtain rfl : k = n2 := by omega
      go_wp2
      go_ret
      exact ⟨retb (Hok.out.all hll), hbel⟩

set_option maxHeartbeats 2000000 in
set_option maxRecDepth 100000 in
theorem refHolds_any (A : Option Addr) (n c : Nat) (v : List Int) (A2 : Option Addr) (n2 c2 : Nat) (l : List Sp) (w : World) (hs : SlI w A n v) (hn : n ≤ 140737488351232) (h2 : SlS w A2 n2 l) (hn2 : n2 ≤ 140737488351232) (hwf : ∀ x ∈ l, wfSp x) :
    Calls Try.prog 15 #[.slice A n c, .slice A2 n2 c2] w fun e w' => e = .returned (.bool (holdsB v l)) ∧ Below w.heap.size w w' := by
  have hll := h2.len
  go_enter Try.func15, Try.ntmps15
  go_wp2
  go_loopw [5] (fun i wr => ∃ k : Nat, i = .int .i64 (k : Int) ∧ k ≤ n2 ∧ Hid (HoldsTo v l k) ∧ Below w.heap.size w wr) (fun i _ => n2 - (intOf i).toNat)
  case atStart => exact ⟨0, rfl, Nat.zero_le _, rfl, Below.refl _ _⟩
  case round =>
    obtain ⟨k, rfl, hk, Hok, hbel⟩ := hrel
    have hsz := hbel.size
    by_cases hlt : k < n2
    · obtain ⟨b, off, x, y, z, rfl, hx, hc0, hc1, hc2⟩ := SlS.at_ (Sl.below h2 hbel) hlt
      have Hx := Lib.hid hx
      have hw := hwf _ (List.mem_of_getElem? hx)
      have hb := bounds_i64 hw.1
      have S0 : SlI wr.drew A n v := Sl.below hs hbel.drew
      have C := Lib.hid (refCovers_any A n c v x z wr.drew S0 hn hb.1 hb.2)
      have B0 : Below w.heap.size w wr.drew := hbel.drew
      have j0 : (0 : Int) ≤ (k : Int) := by omega
      have j1 : (k : Int) < (n2 : Int) := by omega
      clear hx hw hb hwf
      cases hcv : coversB v x z
      · rw [hcv] at C
        have HF := Lib.hid (HoldsTo.no Hx.out hcv)
        clear hcv S0 hbel
        go_wp2_with fail
        go_region_held3 (fun w' => w'.cell? ⟨b, off + k * 3, none⟩ = some (.int .i64 x) ∧ w'.cell? ⟨b, off + k * 3 + 2, none⟩ = some (.int .i64 z) ∧ Below w.heap.size w w')
          (first | exact ⟨hc0, hc2, B0⟩ | exact hS1 | assumption)
          (first
            | (go_at_call 16; refine C.out.mono ?_; rintro e w1 ⟨rfl, b1⟩; have hS1 : w1.cell? ⟨b, off + k * 3, none⟩ = some (.int .i64 x) ∧ w1.cell? ⟨b, off + k * 3 + 2, none⟩ = some (.int .i64 z) ∧ Below w.heap.size w w1 := ⟨(b1.cell (World.block_lt_of_cell? wr.drew _ hc0)).trans hc0, (b1.cell (World.block_lt_of_cell? wr.drew _ hc2)).trans hc2, B0.trans (b1.mono B0.size)⟩))
        go_wp2
        go_ret
        exact ⟨retb HF.out, hS1.2.2⟩
      · rw [hcv] at C
        have HT := Lib.hid (Hok.out.step Hx.out hcv)
        clear hcv S0 hbel
        go_wp2_with fail
        go_region_held3 (fun w' => w'.cell? ⟨b, off + k * 3, none⟩ = some (.int .i64 x) ∧ w'.cell? ⟨b, off + k * 3 + 2, none⟩ = some (.int .i64 z) ∧ Below w.heap.size w w')
          (first | exact ⟨hc0, hc2, B0⟩ | exact hS1 | assumption)
          (first
            | (go_at_call 16; refine C.out.mono ?_; rintro e w1 ⟨rfl, b1⟩; have hS1 : w1.cell? ⟨b, off + k * 3, none⟩ = some (.int .i64 x) ∧ w1.cell? ⟨b, off + k * 3 + 2, none⟩ = some (.int .i64 z) ∧ Below w.heap.size w w1 := ⟨(b1.cell (World.block_lt_of_cell? wr.drew _ hc0)).trans hc0, (b1.cell (World.block_lt_of_cell? wr.drew _ hc2)).trans hc2, B0.trans (b1.mono B0.size)⟩))
        have B1 := hS1.2.2
        clear hS1 C
        go_wp2
        go_roundw
        case rel => exact ⟨k + 1, by go_num, by omega, HT.out, B1⟩
        case measure => simp [intOf]; omega
    · obtain rfl : k = n2 := by omega
      go_wp2
      go_ret
      exact ⟨retb (Hok.out.all hll), hbel⟩
end Go.Proofs.Ytilagblpamhmkaa
