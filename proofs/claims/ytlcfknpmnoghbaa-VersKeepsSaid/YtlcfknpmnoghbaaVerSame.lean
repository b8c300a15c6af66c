/-
  Are two versions, two sets the same? The program's answers and the document's.
-/
import Derived.Test.YtlcfknpmnoghbaaVerSmall
import Derived.Test.YtlcfknpmnoghbaaSpanSame
namespace Go.Proofs.Ytlcfknpmnoghbaa
open Go.RowKit
set_option linter.unusedVariables false

def vEq (v v' : Vr) : Bool := decide (v = v')
def lEq (l l' : List Vr) : Bool := decide (l = l')
theorem vEq_no {v v' : Vr} (h : v ≠ v') : vEq v v' = false := decide_eq_false h
def EqTo {α : Type} (a b : List α) (k : Nat) : Prop := a.take k = b.take k
section
variable {α : Type} {a b : List α} {k n : Nat} {x y : α}
theorem EqTo.start (a b : List α) : EqTo a b 0 := rfl
theorem EqTo.step (h : EqTo a b k) (hx : a[k]? = some x) (hy : b[k]? = some y) (e : x = y) : EqTo a b (k + 1) := by
  unfold EqTo at *
  rw [List.take_add_one, List.take_add_one, h, hx, hy, e]
theorem EqTo.ne (hx : a[k]? = some x) (hy : b[k]? = some y) (e : ¬ x = y) : a ≠ b := fun h => by
  rw [h, hy] at hx
  exact e (Option.some.inj hx).symm
theorem EqTo.all (h : EqTo a b n) (ha : a.length = n) (hb : b.length = n) : a = b := by
  unfold EqTo at h
  rwa [List.take_of_length_le (by omega), List.take_of_length_le (by omega)] at h
end
theorem lEq_ne {l l' : List Vr} {k : Nat} {x y : Vr} (hx : l[k]? = some x) (hy : l'[k]? = some y) (e : vEq x y = false) : lEq l l' = false := decide_eq_false (EqTo.ne hx hy (of_decide_eq_false e))
theorem lEq_len {l l' : List Vr} (h : l.length ≠ l'.length) : lEq l l' = false := decide_eq_false fun e => h (by rw [e])
theorem lEq_all {l l' : List Vr} {n : Nat} (h : EqTo l l' n) (ha : l.length = n) (hb : l'.length = n) : lEq l l' = true := decide_eq_true (h.all ha hb)
theorem EqTo.vstep {l l' : List Vr} {k : Nat} {x y : Vr} (h : EqTo l l' k) (hx : l[k]? = some x) (hy : l'[k]? = some y) (e : vEq x y = true) : EqTo l l' (k + 1) := h.step hx hy (of_decide_eq_true e)
theorem str_ne {a b : ByteArray} (h : a ≠ b) : (a.toList == b.toList) = false := by
  rw [beq_eq_false_iff_ne]
  intro e
  rw [ByteArray.toList_eq, ByteArray.toList_eq] at e
  apply h
  cases a; cases b
  congr 1
  exact Array.toList_inj.1 e
theorem neq_dot (a b c d : Int) (w : World) : (binOp .neq 25 (.agg #[.int .i64 a, .int .i64 b]) (.agg #[.int .i64 c, .int .i64 d])).run Try.prog w = .ok (.bool (!decide (a = c ∧ b = d))) w := by
  have h := Try.underlying25
  by_cases e1 : a = c
  · subst e1
    by_cases e2 : b = d
    · subst e2
      go_simp
    · go_simp
  · go_simp
theorem eq_dot (a b c d : Int) (w : World) : (binOp .eql 25 (.agg #[.int .i64 a, .int .i64 b]) (.agg #[.int .i64 c, .int .i64 d])).run Try.prog w = .ok (.bool (decide (a = c ∧ b = d))) w := by
  have h := Try.underlying25
  by_cases e1 : a = c
  · subst e1
    by_cases e2 : b = d
    · subst e2
      go_simp
    · go_simp
  · go_simp
theorem neq_span (a b c d e f : Int) (w : World) : (binOp .neq 42 (.agg #[.int .i64 a, .int .i64 b, .int .i64 c]) (.agg #[.int .i64 d, .int .i64 e, .int .i64 f])).run Try.prog w = .ok (.bool (!decide ((a, b, c) = (d, e, f)))) w := by
  have h := Try.underlying42
  by_cases e1 : a = d
  · subst e1
    by_cases e2 : b = e
    · subst e2
      by_cases e3 : c = f
      · subst e3
        go_simp
      · go_simp
    · go_simp
  · go_simp
/-- Two boxes, one behind the other. -/
theorem boxes (w : World) (v : Vr) (A : Option Addr) (n c : Nat) (v' : Vr) (A' : Option Addr) (n' c' : Nat) :
    BoxV ((w.alloc (.cells #[.int .i64 v.s, .int .i64 v.n, .slice A n c, .bool v.gone, .string v.val] 28)).alloc (.cells #[.int .i64 v'.s, .int .i64 v'.n, .slice A' n' c', .bool v'.gone, .string v'.val] 28)) w.heap.size v A n c ∧
    BoxV ((w.alloc (.cells #[.int .i64 v.s, .int .i64 v.n, .slice A n c, .bool v.gone, .string v.val] 28)).alloc (.cells #[.int .i64 v'.s, .int .i64 v'.n, .slice A' n' c', .bool v'.gone, .string v'.val] 28)) (w.heap.size + 1) v' A' n' c' ∧
    Below w.heap.size w ((w.alloc (.cells #[.int .i64 v.s, .int .i64 v.n, .slice A n c, .bool v.gone, .string v.val] 28)).alloc (.cells #[.int .i64 v'.s, .int .i64 v'.n, .slice A' n' c', .bool v'.gone, .string v'.val] 28)) := by
  have h1 : Below w.heap.size w (w.alloc (.cells #[.int .i64 v.s, .int .i64 v.n, .slice A n c, .bool v.gone, .string v.val] 28)) := (Below.refl _ _).alloc (Nat.le_refl _) _
  refine ⟨(BoxV.new w v A n c).below ((Below.refl _ _).alloc (Nat.le_refl _) _), ?_, h1.alloc h1.size _⟩
  have h2 := BoxV.new (w.alloc (.cells #[.int .i64 v.s, .int .i64 v.n, .slice A n c, .bool v.gone, .string v.val] 28)) v' A' n' c'
  rwa [show (w.alloc (.cells #[.int .i64 v.s, .int .i64 v.n, .slice A n c, .bool v.gone, .string v.val] 28)).heap.size = w.heap.size + 1 by simp] at h2

set_option maxHeartbeats 2000000 in
set_option maxRecDepth 100000 in
theorem verSameOne_any (v v' : Vr) (A A' : Option Addr) (n n' c c' : Nat) (w : World) (hv : VRow w v A n c) (hv' : VRow w v' A' n' c') :
    Calls Try.prog 35 #[.agg #[.int .i64 v.s, .int .i64 v.n, .slice A n c, .bool v.gone, .string v.val], .agg #[.int .i64 v'.s, .int .i64 v'.n, .slice A' n' c', .bool v'.gone, .string v'.val]] w fun e w' => e = .returned (.bool (vEq v v')) ∧ Below w.heap.size w w' := by
  have HB := Lib.hid (boxes w v A n c v' A' n' c')
  have h1 := hv.sl
  have h2 := hv'.sl
  have hl1 := SlS.len hv.sl
  have hl2 := SlS.len hv'.sl
  have hn9 := hv.n9
  have hn9' := hv'.n9
  clear hv hv'
  obtain ⟨s, m, past, gone, val⟩ := v
  obtain ⟨s', m', past', gone', val'⟩ := v'
  simp only at *
  have hq := neq_dot s m s' m'
  cases hd : decide (s = s' ∧ m = m')
  · have HNE : Hid (¬ (s = s' ∧ m = m' ∧ past = past' ∧ gone = gone' ∧ val = val')) := Lib.hid (fun h => of_decide_eq_false hd ⟨h.1, h.2.1⟩)
    simp only [hd] at hq
    clear hd h1 h2
    have hne := Lib.hid (vEq_no (v := ⟨s, m, past, gone, val⟩) (v' := ⟨s', m', past', gone', val'⟩) (by intro e; injection e with e1 e2 e3 e4 e5; exact HNE.out ⟨e1, e2, e3, e4, e5⟩))
    clear HNE
    go_enter Try.func35, Try.ntmps35
    go_wp2
    go_ret
    exact ⟨retb hne.out, HB.out.2.2⟩
  · simp only [hd] at hq
    obtain ⟨rfl, rfl⟩ := of_decide_eq_true hd
    clear hd
    by_cases hg : gone = gone'
    · subst hg
      by_cases hv : val = val'
      · subst hv
        by_cases hlen : n = n'
        · subst hlen
          go_enter Try.func35, Try.ntmps35
          go_wp2
          clear hq
          go_loopw [37] (fun i wr => ∃ (k : Nat), i = .int .i64 (k : Int) ∧ k ≤ n ∧ Hid (EqTo past past' k) ∧ Hid (BoxV wr w.heap.size ⟨s, m, past, gone, val⟩ A n c ∧ BoxV wr (w.heap.size + 1) ⟨s, m, past', gone, val⟩ A' n c') ∧ Below w.heap.size w wr) (fun i _ => n - (intOf i).toNat)
          case atStart => exact ⟨0, rfl, Nat.zero_le _, rfl, ⟨HB.out.1, HB.out.2.1⟩, HB.out.2.2⟩
          case round =>
            obtain ⟨k, rfl, hk, Hok, Hbox, hbel⟩ := hrel
            by_cases hlt : k < n
            · obtain ⟨b, off, x, y, z, rfl, hx, hc0, hc1, hc2⟩ := SlS.at_ (Sl.below h1 hbel) hlt
              obtain ⟨b', off', x', y', z', rfl, hy, hd0, hd1, hd2⟩ := SlS.at_ (Sl.below h2 hbel) hlt
              have g0 := Hbox.out.1.c2
              have g1 := Hbox.out.2.c2
              have Hx := Lib.hid hx
              have Hy := Lib.hid hy
              have j0 : (0 : Int) ≤ (k : Int) := by omega
              have j1 : (k : Int) < (n : Int) := by omega
              have hq := neq_span x y z x' y' z'
              clear hx hy
              cases he : decide ((x, y, z) = (x', y', z'))
              · simp only [he] at hq
                have hne := Lib.hid (vEq_no (v := ⟨s, m, past, gone, val⟩) (v' := ⟨s, m, past', gone, val⟩) (by intro e; injection e with e1 e2 e3; exact EqTo.ne Hx.out Hy.out (of_decide_eq_false he) e3))
                clear he
                go_wp2_with fail
                go_quiet (fail)
                go_wp2
                go_ret
                exact ⟨retb hne.out, below_drewN hbel _⟩
              · simp only [he] at hq
                have HS := Lib.hid (Hok.out.step Hx.out Hy.out (of_decide_eq_true he))
                clear he
                go_wp2_with fail
                go_quiet (fail)
                go_wp2
                go_roundw
                case rel => exact ⟨k + 1, by go_num, by omega, HS.out, ⟨Hbox.out.1.below (below_drewN (Below.refl _ _) _), Hbox.out.2.below (below_drewN (Below.refl _ _) _)⟩, below_drewN hbel _⟩
                case measure => simp [intOf]; omega
            · obtain rfl : k = n := by omega
              have HE := Lib.hid (Hok.out.all hl1 hl2)
              go_wp2
              go_ret
              exact ⟨retb (by rw [HE.out]; unfold vEq; simp), hbel⟩
        · have HNE : Hid (¬ (s = s ∧ m = m ∧ past = past' ∧ gone = gone ∧ val = val)) := Lib.hid (fun h => hlen (by rw [← hl1, ← hl2, h.2.2.1]))
          have q : ¬ ((n : Int) = (n' : Int)) := by omega
          have q2 : ((n : Int) == (n' : Int)) = false := by simpa using q
          have hne := Lib.hid (vEq_no (v := ⟨s, m, past, gone, val⟩) (v' := ⟨s, m, past', gone, val⟩) (by intro e; injection e with e1 e2 e3 e4 e5; exact HNE.out ⟨e1, e2, e3, e4, e5⟩))
          clear HNE h1 h2 hlen
          go_enter Try.func35, Try.ntmps35
          go_wp2
          go_ret
          exact ⟨retb hne.out, HB.out.2.2⟩
      · have q := str_ne hv
        have hne := Lib.hid (vEq_no (v := ⟨s, m, past, gone, val⟩) (v' := ⟨s, m, past', gone, val'⟩) (by intro e; injection e with e1 e2 e3 e4 e5; exact hv e5))
        clear hv h1 h2
        go_enter Try.func35, Try.ntmps35
        go_wp2
        go_ret
        exact ⟨retb hne.out, HB.out.2.2⟩
    · have hne := Lib.hid (vEq_no (v := ⟨s, m, past, gone, val⟩) (v' := ⟨s, m, past', gone', val'⟩) (by intro e; injection e with e1 e2 e3 e4 e5; exact hg e4))
      clear h1 h2
      cases gone <;> cases gone' <;> first | exact absurd rfl hg | (clear hg; go_enter Try.func35, Try.ntmps35; go_wp2; go_ret; exact ⟨retb hne.out, HB.out.2.2⟩)
end Go.Proofs.Ytlcfknpmnoghbaa
