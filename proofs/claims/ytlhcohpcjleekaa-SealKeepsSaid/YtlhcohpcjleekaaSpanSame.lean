/-
  Slices of spans that a call makes; firthref03.Same: two lists of spans are the same.
-/
import Derived.Test.YtlhcohpcjleekaaSpanMem
import Derived.Test.YtlhcohpcjleekaaProg
import Derived.Deep.QuietTactic
import Derived.BigQuiet
import Derived.OpenShut
namespace Go.Proofs.Ytlhcohpcjleekaa
open Go.RowKit
set_option linter.unusedVariables false

theorem Try.infoSpan : (Try.prog.info? 45).map (fun i => (i.zero, i.size, i.bytes)) = some (some (.agg #[.int .i64 0, .int .i64 0, .int .i64 0]), 3, 24) := by kernel_rfl

/-- What a call leaves that answers new spans. -/
def NewSpans (w : World) (l : List Sp) (e : Ending) (w' : World) : Prop :=
  ∃ A n c, e = .returned (.slice A n c) ∧ SlS w' A n l ∧ n ≤ c ∧ w'.ownsRow w.heap.size 45 3 (.slice A n c) n (spV l) ∧ Below w.heap.size w w'

theorem cell_three_new (w : World) (x y z : Value) (t : TypeId) : ∀ j u, [x, y, z][j]? = some u → (w.alloc (.cells #[x, y, z] t)).cell? ((⟨w.heap.size, 0, none⟩ : Addr).add j) = some u := by
  intro j u hj
  rw [add_plain', Nat.zero_add, cell_of_row _ w.heap.size j _ t (0, 0) (heap_alloc_new w _)]
  match j, hj with
  | 0, hj => simpa using hj
  | 1, hj => simpa using hj
  | 2, hj => simpa using hj

theorem cell_three_at (w : World) (x y z : Value) (t : TypeId) (g : Nat) (hg : w.heap.size = g) : ∀ j u, [x, y, z][j]? = some u → (w.alloc (.cells #[x, y, z] t)).cell? ((⟨g, 0, none⟩ : Addr).add j) = some u := by
  subst hg; exact cell_three_new w x y z t
theorem own_span {w : World} {base : Nat} {e : TypeId} {v : Value} {acc acc' : List Sp} {x y z : Int} {n : Nat} (h : w.ownsRow base e 3 v n (spV acc ++ [.int .i64 x, .int .i64 y, .int .i64 z])) (hn : n = acc.length + 1) (ha : acc' = acc ++ [(x, y, z)]) :
    w.ownsRow base e 3 v acc'.length (spV acc') := by
  subst hn ha
  rw [spV_append, List.length_append]
  exact h

def EqToS (a b : List Sp) (k : Nat) : Prop := a.take k = b.take k
theorem EqToS.step {a b : List Sp} {k : Nat} {x y : Sp} (h : EqToS a b k) (hx : a[k]? = some x) (hy : b[k]? = some y) (e : x = y) : EqToS a b (k + 1) := by
  unfold EqToS at *
  rw [List.take_add_one, List.take_add_one, hx, hy, h, e]
theorem EqToS.ne {a b : List Sp} {k : Nat} {x y : Sp} (hx : a[k]? = some x) (hy : b[k]? = some y) (e : ¬ x = y) : (a == b) = false := by
  rw [beq_eq_false_iff_ne]
  rintro rfl
  rw [hx] at hy
  injection hy with hy
  exact e hy
theorem EqToS.all {a b : List Sp} {n : Nat} (h : EqToS a b n) (ha : a.length = n) (hb : b.length = n) : (a == b) = true := by
  unfold EqToS at h
  rw [List.take_of_length_le (by omega), List.take_of_length_le (by omega)] at h
  rw [h]; simp

set_option maxHeartbeats 1000000 in
set_option maxRecDepth 100000 in
theorem sameS_any (A1 A2 : Option Addr) (n1 n2 c1 c2 : Nat) (l1 l2 : List Sp) (w : World) (h1 : SlS w A1 n1 l1) (h2 : SlS w A2 n2 l2) (hn : n1 ≤ 140737488351232) :
    Calls Try.prog 16 #[.slice A1 n1 c1, .slice A2 n2 c2] w fun e w' => e = .returned (.bool (l1 == l2)) ∧ ∃ k, w' = w.drewN k := by
  have e1 := h1.len
  have e2 := h2.len
  by_cases he : n1 = n2
  · subst he
    go_enter Try.func16, Try.ntmps16
    go_wp2
    go_loopw [5] (fun i wr => ∃ k : Nat, i = .int .i64 (k : Int) ∧ k ≤ n1 ∧ Hid (EqToS l1 l2 k) ∧ ∃ d, wr = w.drewN d) (fun i _ => n1 - (intOf i).toNat)
    case atStart => exact ⟨0, rfl, Nat.zero_le _, rfl, 0, rfl⟩
    case round =>
      obtain ⟨k, rfl, hk, Hok, d, rfl⟩ := hrel
      by_cases hlt : k < n1
      · obtain ⟨b, off, x, y, z, rfl, hx, hc0, hc1, hc2⟩ := h1.at_ hlt
        obtain ⟨b', off', x', y', z', rfl, hy, hd0, hd1, hd2⟩ := h2.at_ hlt
        have Hx := Lib.hid hx
        have Hy := Lib.hid hy
        clear hx hy
        have i0 : (0 : Int) ≤ (k : Int) := by omega
        have i1 : (k : Int) < (n1 : Int) := by omega
        by_cases hxx : x = x'
        · subst hxx
          by_cases hyy : y = y'
          · subst hyy
            by_cases hzz : z = z'
            · subst hzz
              go_wp2
              go_quiet (fail)
              go_wp2
              go_roundw
              case rel => exact ⟨k + 1, by go_num, by omega, Hok.out.step Hx.out Hy.out rfl, _, rfl⟩
              case measure => simp [intOf]; omega
            · have q : (z == z') = false := beq_eq_false_iff_ne.2 hzz
              have HN := Lib.hid (EqToS.ne Hx.out Hy.out (by simp [hzz]))
              clear hzz
              go_wp2
              go_quiet (fail)
              go_wp2
              go_ret
              exact ⟨retb HN.out, _, by rw [World.drewN_drewN]⟩
          · have q : (y == y') = false := beq_eq_false_iff_ne.2 hyy
            have HN := Lib.hid (EqToS.ne Hx.out Hy.out (by simp [hyy]))
            clear hyy
            go_wp2
            go_quiet (fail)
            go_wp2
            go_ret
            exact ⟨retb HN.out, _, by rw [World.drewN_drewN]⟩
        · have q : (x == x') = false := beq_eq_false_iff_ne.2 hxx
          have HN := Lib.hid (EqToS.ne Hx.out Hy.out (by simp [hxx]))
          clear hxx
          go_wp2
          go_quiet (fail)
          go_wp2
          go_ret
          exact ⟨retb HN.out, _, by rw [World.drewN_drewN]⟩
      · obtain rfl : k = n1 := by omega
        go_wp2
        go_ret
        exact ⟨retb (Hok.out.all e1 e2), d, rfl⟩
  · have HF := Lib.hid (show (l1 == l2) = false by rw [beq_eq_false_iff_ne]; rintro rfl; exact he (e1.symm.trans e2))
    have hb : ((n1 : Int) != (n2 : Int)) = true := by simp; omega
    go_enter Try.func16, Try.ntmps16
    go_wp2
    go_ret
    exact ⟨retb HF.out, 0, rfl⟩
end Go.Proofs.Ytlhcohpcjleekaa
