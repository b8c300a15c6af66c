/-
  span.Right tells whether a list of spans is right.
-/
import Derived.Test.YtlhcohpcjleekaaSpanJoinPlain
import Derived.Test.YtlhcohpcjleekaaProg
import Derived.Deep.QuietTactic
import Derived.BigQuiet
import Derived.OpenShut
namespace Go.Proofs.Ytlhcohpcjleekaa
open Go.RowKit
set_option linter.unusedVariables false

/-- A list of spans is right. -/
noncomputable def rightS (l : List Sp) : Bool := @decide (Norm l ∧ l.length ≤ 1024) (Classical.propDecidable _)
theorem rightS_true {l : List Sp} : rightS l = true ↔ Norm l ∧ l.length ≤ 1024 := by unfold rightS; exact @decide_eq_true_iff _ (Classical.propDecidable _)
theorem rightS_false {l : List Sp} (h : ¬ (Norm l ∧ l.length ≤ 1024)) : rightS l = false := by
  cases hr : rightS l
  · rfl
  · exact absurd (rightS_true.1 hr) h

theorem norm_take {l : List Sp} (h : Norm l) (k : Nat) : Norm (l.take k) := ⟨fun x hx => h.1 x (List.mem_of_mem_take hx), h.2.sublist (List.take_sublist _ _)⟩
/-- The last of the first k spans; (0, 0, 0) where there is none. -/
def lastOf (l : List Sp) (k : Nat) : Sp := if k = 0 then (0, 0, 0) else l.getD (k - 1) (0, 0, 0)
/-- Where Right's loop stands: the first k are right, p is the last of them. -/
def RInv (l : List Sp) (k : Nat) (p : Sp) : Prop := Norm (l.take k) ∧ p = lastOf l k
theorem RInv.start (l : List Sp) : RInv l 0 (0, 0, 0) := ⟨by rw [List.take_zero]; exact Norm.nil, rfl⟩
theorem RInv.bound {l : List Sp} {k : Nat} {p : Sp} (h : RInv l k p) (hk : k ≤ l.length) : 0 ≤ p.1 ∧ p.1 ≤ 16 ∧ 0 ≤ p.2.2 ∧ p.2.2 ≤ 4611686018427387904 := by
  obtain ⟨h1, rfl⟩ := h
  unfold lastOf
  split
  · simp
  · have hm : l.getD (k - 1) (0, 0, 0) ∈ l.take k := by
      rw [List.getD_eq_getElem?_getD, List.getElem?_eq_getElem (by omega)]
      exact List.mem_take_iff_getElem.2 ⟨k - 1, by omega, rfl⟩
    have := h1.1 _ hm
    unfold okSp at this; omega
theorem last_at {l : List Sp} {k : Nat} {x : Sp} (hx : l[k]? = some x) : lastOf l (k + 1) = x := by
  unfold lastOf
  rw [if_neg (by omega), Nat.add_sub_cancel, List.getD_eq_getElem?_getD, hx]; rfl
theorem RInv.step {l : List Sp} {k : Nat} {p x : Sp} (h : RInv l k p) (hx : l[k]? = some x) (ho : okSp x) (hg : p.1 < x.1 ∨ (p.1 = x.1 ∧ p.2.2 + 1 < x.2.1)) : RInv l (k + 1) x := by
  refine ⟨?_, (last_at hx).symm⟩
  have e : l.take (k + 1) = l.take k ++ [x] := by rw [List.take_add_one, hx]; rfl
  rw [e]
  obtain ⟨h1, rfl⟩ := h
  refine norm_snoc h1 ho fun y hy => ?_
  rcases Nat.eq_zero_or_pos k with rfl | hk
  · simp at hy
  · obtain ⟨j, hj⟩ : ∃ j, k = j + 1 := ⟨k - 1, by omega⟩
    subst hj
    have hkl : j < l.length := by have := (List.getElem?_eq_some_iff.1 hx).1; omega
    obtain ⟨z, hz⟩ : ∃ z, l[j]? = some z := ⟨_, List.getElem?_eq_getElem hkl⟩
    rw [last_at hz] at hg
    have e2 : l.take (j + 1) = l.take j ++ [z] := by rw [List.take_add_one, hz]; rfl
    rw [e2] at h1 hy
    obtain ⟨_, hzo, hgz⟩ := norm_init h1
    rcases List.mem_append.1 hy with hy | hy
    · exact gap_trans (hgz y hy) hzo hg
    · rw [List.mem_singleton] at hy; subst hy; exact hg
theorem RInv.no {l : List Sp} {k : Nat} {p x : Sp} (h : RInv l k p) (hx : l[k]? = some x) (hb : ¬ okSp x ∨ (x.1 < p.1 ∨ (x.1 = p.1 ∧ x.2.1 ≤ p.2.2 + 1))) : rightS l = false := by
  refine rightS_false fun ⟨hn, _⟩ => ?_
  have hok := hn.1 x (List.mem_of_getElem? hx)
  rcases hb with hb | hb
  · exact hb hok
  · obtain ⟨h1, rfl⟩ := h
    rcases Nat.eq_zero_or_pos k with rfl | hk
    · unfold lastOf okSp at *; simp at hb; omega
    · obtain ⟨j, hj⟩ : ∃ j, k = j + 1 := ⟨k - 1, by omega⟩
      subst hj
      have hkl : j + 1 < l.length := (List.getElem?_eq_some_iff.1 hx).1
      obtain ⟨z, hz⟩ : ∃ z, l[j]? = some z := ⟨_, List.getElem?_eq_getElem (by omega)⟩
      rw [last_at hz] at hb
      have hp := List.pairwise_iff_getElem.1 hn.2 j (j + 1) (by omega) hkl (by omega)
      rw [(List.getElem?_eq_some_iff.1 hz).2, (List.getElem?_eq_some_iff.1 hx).2] at hp
      unfold gap at hp; omega
theorem RInv.all {l : List Sp} {n : Nat} {p : Sp} (h : RInv l n p) (hn : l.length = n) : rightS l = decide (n ≤ 1024) := by
  have h1 := h.1
  rw [List.take_of_length_le (by omega)] at h1
  by_cases hc : n ≤ 1024
  · rw [decide_eq_true hc]; exact rightS_true.2 ⟨h1, by omega⟩
  · rw [decide_eq_false hc]; exact rightS_false (fun h => hc (by omega))

/-- A span in a block of the call's own. -/
def Box3 (w : World) (g : Nat) (t : TypeId) (x y z : Int) : Prop := w.heap[g]? = some (.cells #[.int .i64 x, .int .i64 y, .int .i64 z] t (0, 0))
section
variable {w w' : World} {g : Nat} {t : TypeId} {x y z : Int}
theorem Box3.new (w : World) (t : TypeId) (x y z : Int) : Box3 (w.alloc (.cells #[.int .i64 x, .int .i64 y, .int .i64 z] t)) w.heap.size t x y z := heap_alloc_new w _
theorem Box3.lt (h : Box3 w g t x y z) : g < w.heap.size := (Array.getElem?_eq_some_iff.1 h).1
theorem Box3.below (h : Box3 w g t x y z) (b : Below w.heap.size w w') : Box3 w' g t x y z := (b.block g h.lt).trans h
theorem Box3.c0 (h : Box3 w g t x y z) : w.cell? ⟨g, 0, none⟩ = some (.int .i64 x) := by rw [cell_of_row w g 0 _ t (0, 0) h]; rfl
theorem Box3.c1 (h : Box3 w g t x y z) : w.cell? ⟨g, 1, none⟩ = some (.int .i64 y) := by rw [cell_of_row w g 1 _ t (0, 0) h]; rfl
theorem Box3.c2 (h : Box3 w g t x y z) : w.cell? ⟨g, 2, none⟩ = some (.int .i64 z) := by rw [cell_of_row w g 2 _ t (0, 0) h]; rfl
theorem Box3.set3 (h : Box3 w g t x y z) (a b c : Int) : Box3 (((w.setCell ⟨g, 0, none⟩ (.int .i64 a)).setCell ⟨g, 1, none⟩ (.int .i64 b)).setCell ⟨g, 2, none⟩ (.int .i64 c)) g t a b c := by
  have h1 := heap_setCell_same w g 0 _ t (.int .i64 a) h
  have h2 := heap_setCell_same _ g 1 _ t (.int .i64 b) h1
  have h3 := heap_setCell_same _ g 2 _ t (.int .i64 c) h2
  unfold Box3
  rw [h3]
  rfl
theorem Box3.alloc (h : Box3 w g t x y z) (o : Obj) : Box3 (w.alloc o) g t x y z := (Below.heap_alloc w o g h.lt).trans h
theorem below_set3 {B : Nat} {w0 : World} (hb : Below B w0 w) (hg : B ≤ g) (a b c : Value) : Below B w0 (((w.setCell ⟨g, 0, none⟩ a).setCell ⟨g, 1, none⟩ b).setCell ⟨g, 2, none⟩ c) :=
  ((hb.setCell (p := ⟨g, 0, none⟩) hg a).setCell (p := ⟨g, 1, none⟩) hg b).setCell (p := ⟨g, 2, none⟩) hg c
theorem Box3.fr (h : Box3 w g t x y z) (j : Nat) : w.frozen? ⟨g, j, none⟩ = false := frozen_of_row w g j _ t h
end

set_option maxHeartbeats 1000000 in
set_option maxRecDepth 100000 in
theorem spanRight_any (A : Option Addr) (n c : Nat) (l : List Sp) (w : World) (hs : SlS w A n l) (hn : n ≤ 140737488351232) :
    Calls Try.prog 32 #[.slice A n c] w fun e w' => e = .returned (.bool (rightS l)) ∧ Below w.heap.size w w' := by
  have hll := hs.len
  have HB0 := Lib.hid (Box3.new w 45 0 0 0)
  go_enter Try.func32, Try.ntmps32
  go_wp2
  go_loopw [9] (fun i wr => ∃ (k : Nat) (p1 p2 p3 : Int), i = .int .i64 (k : Int) ∧ k ≤ n ∧ Hid (RInv l k (p1, p2, p3)) ∧ Hid (Box3 wr w.heap.size 45 p1 p2 p3) ∧ Below w.heap.size w wr) (fun i _ => n - (intOf i).toNat)
  case atStart => exact ⟨0, 0, 0, 0, rfl, Nat.zero_le _, RInv.start l, HB0, (Below.refl _ _).alloc (Nat.le_refl _) _⟩
  case round =>
    obtain ⟨k, p1, p2, p3, rfl, hk, Hok, Hbox, hbel⟩ := hrel
    have hsz := hbel.size
    by_cases hlt : k < n
    · obtain ⟨b, off, x, y, z, rfl, hx, hc0, hc1, hc2⟩ := SlS.at_ (Sl.below hs hbel) hlt
      have Hx := Lib.hid hx
      obtain ⟨q1, q2, q3, q4⟩ := Hok.out.bound (by omega)
      have g0 := Hbox.out.c0
      have g1 := Hbox.out.c1
      have g2 := Hbox.out.c2
      have g3 := Hbox.out.fr 0
      have g4 := Hbox.out.fr 1
      have g5 := Hbox.out.fr 2
      have g6 := Hbox.out.lt
      clear hx
      simp only at q1 q2 q3 q4
      by_cases u1 : x < 1
      · go_wp2
        go_ret
        exact ⟨retb (Hok.out.no Hx.out (.inl (by unfold okSp; simp only; omega))), hbel.alloc hsz _⟩
      by_cases u2 : 16 < x
      · go_wp2
        go_ret
        exact ⟨retb (Hok.out.no Hx.out (.inl (by unfold okSp; simp only; omega))), hbel.alloc hsz _⟩
      by_cases u3 : y < 1
      · go_wp2
        go_ret
        exact ⟨retb (Hok.out.no Hx.out (.inl (by unfold okSp; simp only; omega))), hbel.alloc hsz _⟩
      by_cases u4 : z < y
      · go_wp2
        go_ret
        exact ⟨retb (Hok.out.no Hx.out (.inl (by unfold okSp; simp only; omega))), hbel.alloc hsz _⟩
      by_cases u5 : 4611686018427387904 < z
      · go_wp2
        go_ret
        exact ⟨retb (Hok.out.no Hx.out (.inl (by unfold okSp; simp only; omega))), hbel.alloc hsz _⟩
      by_cases u6 : x < p1
      · go_wp2
        go_ret
        exact ⟨retb (Hok.out.no Hx.out (.inr (by simp only; omega))), hbel.alloc hsz _⟩
      by_cases u7 : p1 < x
      · have HS := Lib.hid (Hok.out.step Hx.out (by unfold okSp; simp only; omega) (.inl u7))
        have R1 := Lib.hid ((Hbox.out.set3 x y z).alloc (.cells #[.int .i64 x, .int .i64 y, .int .i64 z] 45))
        have R2 := Lib.hid ((below_set3 hbel (Nat.le_refl w.heap.size) (.int .i64 x) (.int .i64 y) (.int .i64 z)).alloc (by simp [World.setCell]; omega) (.cells #[.int .i64 x, .int .i64 y, .int .i64 z] 45))
        go_wp2
        go_roundw
        case rel => exact ⟨k + 1, x, y, z, by go_num, by omega, HS.out, R1, R2.out⟩
        case measure => simp [intOf]; omega
      by_cases u8 : y ≤ p3 + 1
      · go_wp2
        go_ret
        exact ⟨retb (Hok.out.no Hx.out (.inr (by simp only; omega))), hbel.alloc hsz _⟩
      · have ex : x = p1 := by omega
        subst ex
        have HS := Lib.hid (Hok.out.step Hx.out (by unfold okSp; simp only; omega) (.inr ⟨rfl, by simp only; omega⟩))
        have R1 := Lib.hid ((Hbox.out.set3 x y z).alloc (.cells #[.int .i64 x, .int .i64 y, .int .i64 z] 45))
        have R2 := Lib.hid ((below_set3 hbel (Nat.le_refl w.heap.size) (.int .i64 x) (.int .i64 y) (.int .i64 z)).alloc (by simp [World.setCell]; omega) (.cells #[.int .i64 x, .int .i64 y, .int .i64 z] 45))
        go_wp2
        go_roundw
        case rel => exact ⟨k + 1, x, y, z, by go_num, by omega, HS.out, R1, R2.out⟩
        case measure => simp [intOf]; omega
    · obtain rfl : k = n := by omega
      go_wp2
      go_ret
      exact ⟨retb (by rw [Hok.out.all hll, decide_eq_decide]; omega), hbel⟩
end Go.Proofs.Ytlhcohpcjleekaa
