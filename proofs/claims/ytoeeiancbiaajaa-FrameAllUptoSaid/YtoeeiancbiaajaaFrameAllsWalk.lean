/-
  firthref02.Same; the walk of firthlaw02.FrameAlls.
-/
import Derived.Test.YtoeeiancbiaajaaFrameRefAll
namespace Go.Proofs.Ytoeeiancbiaajaa
open Go.RowKit
set_option linter.unusedVariables false

/-- The first k are the same. -/
def EqTo {α : Type} (a b : List α) (k : Nat) : Prop := a.take k = b.take k
theorem EqTo.step {α : Type} {a b : List α} {k : Nat} {x y : α} (h : EqTo a b k) (hx : a[k]? = some x) (hy : b[k]? = some y) (e : x = y) : EqTo a b (k + 1) := by
  unfold EqTo at *
  rw [List.take_add_one, List.take_add_one, hx, hy, h, e]
theorem EqTo.ne {α : Type} [BEq α] [LawfulBEq α] {a b : List α} {k : Nat} {x y : α} (hx : a[k]? = some x) (hy : b[k]? = some y) (e : ¬ x = y) : (a == b) = false := by
  rw [beq_eq_false_iff_ne]
  rintro rfl
  rw [hx] at hy
  injection hy with hy
  exact e hy
theorem EqTo.all {α : Type} [BEq α] [LawfulBEq α] {a b : List α} {n : Nat} (h : EqTo a b n) (ha : a.length = n) (hb : b.length = n) : (a == b) = true := by
  unfold EqTo at h
  rw [List.take_of_length_le (by omega), List.take_of_length_le (by omega)] at h
  rw [h]; simp

set_option maxHeartbeats 1000000 in
set_option maxRecDepth 100000 in
theorem sameBB_any (A1 A2 : Option Addr) (n1 n2 c1 c2 : Nat) (l1 l2 : List (List UInt8)) (w : World) (h1 : SlBB w A1 n1 l1) (h2 : SlBB w A2 n2 l2) (hn : n1 ≤ 140737488351232) :
    Calls Try.prog 19 #[.slice A1 n1 c1, .slice A2 n2 c2] w fun e w' => e = .returned (.bool (l1 == l2)) ∧ ∃ k, w' = w.drewN k := by
  have e1 := h1.len
  have e2 := h2.len
  by_cases he : n1 = n2
  · subst he
    go_enter Try.func19, Try.ntmps19
    go_wp2
    go_loopw [5] (fun i wr => ∃ k : Nat, i = .int .i64 (k : Int) ∧ k ≤ n1 ∧ Hid (EqTo l1 l2 k) ∧ ∃ d, wr = w.drewN d) (fun i _ => n1 - (intOf i).toNat)
    case atStart => exact ⟨0, rfl, Nat.zero_le _, rfl, 0, rfl⟩
    case round =>
      obtain ⟨k, rfl, hk, Hok, d, rfl⟩ := hrel
      by_cases hlt : k < n1
      · obtain ⟨b, off, x, Ak, nk, ck, rfl, hx, hc, sx, -, -⟩ := h1.at_ hlt
        obtain ⟨b', off', y, Bk, mk, dk, rfl, hy, hd, sy, -, -⟩ := h2.at_ hlt
        have q1 := run_convert_SlB (P := Try.prog) (Sl.drewN sx (d + 1)) 22 5 9 Try.underlying22 Try.underlying5 Try.underlying9 ck
        have q2 := run_convert_SlB (P := Try.prog) (Sl.drewN sy (d + 1)) 22 5 9 Try.underlying22 Try.underlying5 Try.underlying9 dk
        have Hx := Lib.hid hx
        have Hy := Lib.hid hy
        clear hx hy sx sy
        have i0 : (0 : Int) ≤ (k : Int) := by omega
        have i1 : (k : Int) < (n1 : Int) := by omega
        by_cases hxy : x = y
        · subst hxy
          go_wp2
          go_region_with fail
          all_goals go_wp2
          all_goals exact ⟨⟨k + 1, by go_num, by omega, Hok.out.step Hx.out Hy.out rfl, d + 1, rfl⟩, by simp [intOf]; omega⟩
        · have HN := Lib.hid (EqTo.ne Hx.out Hy.out hxy)
          go_wp2
          go_region_with fail
          all_goals go_wp2
          all_goals first
            | (go_ret; exact ⟨retb HN.out, d + 1, rfl⟩)
            | exact absurd (by simpa using ‹(!x == y) = false›) hxy
      · obtain rfl : k = n1 := by omega
        go_wp2
        go_ret
        exact ⟨retb (Hok.out.all e1 e2), d, rfl⟩
  · have HF := Lib.hid (show (l1 == l2) = false by rw [beq_eq_false_iff_ne]; rintro rfl; exact he (e1.symm.trans e2))
    have hb : ((n1 : Int) != (n2 : Int)) = true := by simp; omega
    go_enter Try.func19, Try.ntmps19
    go_wp2
    go_ret
    exact ⟨retb HF.out, 0, rfl⟩

def allN : Nat → List UInt8 → Nat → List (List UInt8) × Nat × Int
  | 0, _, k => ([], k, 0)
  | f + 1, b, k => if k < b.length then match nextF b k with
      | .error x => ([], k, x)
      | .ok (l, en) => (l :: (allN f b en).1, (allN f b en).2)
    else ([], k, 0)
theorem Went.run {b : List UInt8} {xs : List Fr} {k : Nat} (h : Went b xs k) : ∀ f, allN (f + xs.length) b 0 = (xs.map (·.l) ++ (allN f b k).1, (allN f b k).2) := by
  induction h with
  | nil => intro f; simp
  | @snoc ys j x hw hlt hn ih =>
    intro f
    have h1 := ih (f + 1)
    have h2 : allN (f + 1) b j = (x.l :: (allN f b x.en).1, (allN f b x.en).2) := by
      rw [allN, if_pos hlt, hn]
    rw [h2] at h1
    rw [show f + (ys ++ [x]).length = f + 1 + ys.length by simp; omega, h1]
    simp
theorem EndFr.run {b : List UInt8} {xs : List Fr} {k : Nat} {e : Int} (h : EndFr b xs k e) (f : Nat) : allN (f + 1 + xs.length) b 0 = (xs.map (·.l), k, e) := by
  obtain ⟨hw, h2⟩ := h
  rw [hw.run (f + 1)]
  have : allN (f + 1) b k = ([], k, e) := by
    rcases h2 with ⟨h3, rfl⟩ | ⟨h3, h4⟩
    · rw [allN, if_neg (by omega)]
    · rw [allN, if_pos h3, h4]
  rw [this]
  simp
theorem EndFr.same {b : List UInt8} {xs ys : List Fr} {k k' : Nat} {e e' : Int} (h : EndFr b xs k e) (h' : EndFr b ys k' e') : xs.map (·.l) = ys.map (·.l) ∧ k = k' ∧ e = e' := by
  have h1 := h.run ys.length
  have h2 := h'.run xs.length
  rw [show ys.length + 1 + xs.length = xs.length + 1 + ys.length by omega, h2] at h1
  injection h1 with h3 h4
  injection h4 with h4 h5
  exact ⟨h3.symm, h4.symm, h5.symm⟩

set_option maxHeartbeats 1000000 in
set_option maxRecDepth 100000 in
theorem frameAlls_walk (a0 : Option Addr) (len0 cap0 : Nat) (l0 : List UInt8) (w : World) (s0 : SlB w a0 len0 l0) (b0 : len0 ≤ cap0) (z0 : cap0 * 1 ≤ 140737488351232) (hsum : cap0 ≤ 1048576) :
    Calls Try.prog 8 #[.slice a0 len0 cap0] w fun e w' => e = .returned (.bool true) ∧ Below w.heap.size w w' := by
  have e0 := s0.len
  have hlen : len0 ≤ 1048576 := by omega
  go_enter Try.func8, Try.ntmps8
  go_wp2_with fail
  refine (frameAll_any a0 len0 cap0 l0 w s0 b0 (by omega)).mono ?_
  rintro e w1 ⟨xs, k, er, A1, n1, c1, E1, rfl, S1, m1, B1⟩
  have y1 := B1.size
  go_wp2_with fail
  refine (refAll_any a0 len0 cap0 l0 w1 (Sl.below s0 B1) b0 (by omega)).mono ?_
  rintro e w2 ⟨ys, k', er', A2, n2, c2, E2, rfl, S2, m2, B2⟩
  obtain ⟨q1, rfl, rfl⟩ := E1.same E2
  have S1 := S1.below B2
  have B2 := B1.trans (B2.mono y1)
  have hn1 : n1 ≤ 140737488351232 := by
    have h1 := S1.len
    have h2 := E1.1.le
    simp at h1
    omega
  rw [q1] at S1
  clear E1 E2 q1 B1 y1
  go_wp2_with fail
  refine (sameBB_any A1 A2 n1 n2 c1 c2 _ _ w2 S1 S2 hn1).mono ?_
  rintro e w3 ⟨rfl, d, rfl⟩
  go_wp2
  go_ret
  exact ⟨by simp, below_drewN B2 _⟩
end Go.Proofs.Ytoeeiancbiaajaa
