/-
  firth/code.Msg. (Printed by tools/wholemsg.py.)
-/
import Derived.Test.YtgnedaihchmoaaaCodeWholeMsg
import Derived.Test.YtgnedaihchmoaaaFrameNext
namespace Go.Proofs.Ytgnedaihchmoaaa
open Go.RowKit
set_option linter.unusedVariables false

/-- What is read of bytes as a message, or the error's number. -/
noncomputable def msgRd (b : List UInt8) : Option Mg × Int :=
  match nextF b 0 with
  | .error x => (none, x)
  | .ok (i, a) => if a = b.length then (match msgR okP i with | some m => (some m, 0) | none => (none, 2)) else (none, 2)
theorem msgRd_err {b : List UInt8} {x : Int} (h : nextF b 0 = .error x) : msgRd b = (none, x) := by unfold msgRd; rw [h]
theorem msgRd_far {b i : List UInt8} {a : Nat} (h : nextF b 0 = .ok (i, a)) (ha : a ≠ b.length) : msgRd b = (none, 2) := by unfold msgRd; rw [h]; exact if_neg ha
theorem msgRd_none {b i : List UInt8} {a : Nat} (h : nextF b 0 = .ok (i, a)) (ha : a = b.length) (hm : msgR okP i = none) : msgRd b = (none, 2) := by unfold msgRd; rw [h]; simp only; rw [if_pos ha, hm]
theorem msgRd_some {b i : List UInt8} {a : Nat} {m : Mg} (h : nextF b 0 = .ok (i, a)) (ha : a = b.length) (hm : msgR okP i = some m) : msgRd b = (some m, 0) := by unfold msgRd; rw [h]; simp only; rw [if_pos ha, hm]
theorem nextF_ne {l : List UInt8} {a : Nat} {x : Int} (h : nextF l a = .error x) : x ≠ 0 := by
  unfold nextF at h
  split at h
  · rename_i y hy
    injection h with h
    have hx : y = 2 ∨ y = 4 := rdN_err _ _ _ _ hy
    omega
  · split at h
    · injection h with h; omega
    · split at h
      · injection h with h; omega
      · split at h
        · cases h
        · injection h with h; omega
theorem msgRd_iff (b : List UInt8) (m : Mg) : (msgRd b).1 = some m ↔ rightM m = true ∧ WfM m ∧ (msgB m).length ≤ 1048576 ∧ b = putF (msgB m) := by
  constructor
  · intro h
    cases hn : nextF b 0 with
    | error x => rw [msgRd_err hn] at h; cases h
    | ok p =>
      obtain ⟨i, a⟩ := p
      by_cases ha : a = b.length
      · cases hm : msgR okP i with
        | none => rw [msgRd_none hn ha hm] at h; cases h
        | some m' =>
          rw [msgRd_some hn ha hm] at h
          simp only [Option.some.injEq] at h
          subst h
          obtain ⟨h1, h2, h3⟩ := (msgR_iff okP_small _ _).1 hm
          obtain ⟨h4, h5, h6, h7⟩ := nextF_ok hn
          subst h3
          refine ⟨h1, h2, h4, ?_⟩
          rw [List.drop_zero, List.take_of_length_le (by omega)] at h7
          exact h7
      · rw [msgRd_far hn ha] at h; cases h
  · rintro ⟨h1, h2, h3, rfl⟩
    have hn := nextF_put h3 (putF (msgB m)) [] 0 (by simp) (Nat.zero_le _)
    rw [Nat.zero_add] at hn
    rw [msgRd_some hn rfl ((msgR_iff okP_small _ _).2 ⟨h1, h2, rfl⟩)]
theorem msgRd_ok {b : List UInt8} {m : Mg} (h : (msgRd b).1 = some m) : (msgRd b).2 = 0 := by
  cases hn : nextF b 0 with
  | error x => rw [msgRd_err hn] at h; cases h
  | ok p =>
    obtain ⟨i, a⟩ := p
    by_cases ha : a = b.length
    · cases hm : msgR okP i with
      | none => rw [msgRd_none hn ha hm] at h; cases h
      | some m' => rw [msgRd_some hn ha hm]
    · rw [msgRd_far hn ha] at h; cases h
theorem msgRd_no {b : List UInt8} (h : (msgRd b).1 = none) : (msgRd b).2 ≠ 0 := by
  cases hn : nextF b 0 with
  | error x => rw [msgRd_err hn]; exact nextF_ne hn
  | ok p =>
    obtain ⟨i, a⟩ := p
    by_cases ha : a = b.length
    · cases hm : msgR okP i with
      | none => rw [msgRd_none hn ha hm]; decide
      | some m' => rw [msgRd_some hn ha hm] at h; cases h
    · rw [msgRd_far hn ha]; decide
set_option maxHeartbeats 8000000 in
set_option maxRecDepth 100000 in
theorem msg_any (w : World) (A : Option Addr) (n c : Nat) (L : List UInt8) (hs : SlB w A n L) (hc : n ≤ c) (h9 : n ≤ 140737488351232) :
    Calls Try.prog 15 #[.slice A n c] w (MsgAns w (msgRd L).1 (msgRd L).2) := by
  have bA : Below w.heap.size w (w.alloc (.cells #[.int .i64 0, .int .i64 0, .int .i64 0, .int .i64 0, .int .i64 0, .int .i64 0, .int .i64 0, .int .i64 0, .int .i64 0, .string ⟨#[]⟩, .slice none 0 0, .slice none 0 0, .slice none 0 0, .slice none 0 0, .slice none 0 0] 30)) := (Below.refl _ _).alloc (Nat.le_refl _) _
  have HX := Lib.hid (show MBox (w.alloc (.cells #[.int .i64 0, .int .i64 0, .int .i64 0, .int .i64 0, .int .i64 0, .int .i64 0, .int .i64 0, .int .i64 0, .int .i64 0, .string ⟨#[]⟩, .slice none 0 0, .slice none 0 0, .slice none 0 0, .slice none 0 0, .slice none 0 0] 30)) w.heap.size (.int .i64 0) (.int .i64 0) (.int .i64 0) (.int .i64 0) (.int .i64 0) (.int .i64 0) (.int .i64 0) (.int .i64 0) (.int .i64 0) (.string ⟨#[]⟩) (.slice none 0 0) (.slice none 0 0) (.slice none 0 0) (.slice none 0 0) (.slice none 0 0) from heap_alloc_new w _)
  have C1 := frameNext_any A n c 0 L _ (Sl.below hs bA) hc h9 (Nat.zero_le _)
  have hL := hs.len
  have HA := Lib.hid bA
  clear bA hs
  cases hn : nextF L 0 with
  | error x =>
    rw [msgRd_err hn]
    rw [hn] at C1
    have C := Lib.hid C1
    have hx := nextF_ne hn
    have t1 : (x != 0) = true := by rw [bne_iff_ne]; exact hx
    have t2 : (x == 0) = false := by rw [beq_eq_false_iff_ne]; exact hx
    clear C1 hn hx
    go_enter Try.func15, Try.ntmps15
    go_wp2_with fail
    refine C.out.mono ?_
    rintro e w1 ⟨rfl, b1⟩
    have HB := Lib.hid (HA.out.trans (b1.mono HA.out.size))
    have X1 := (b1.block _ (lt_of_block HX.out)).trans HX.out
    clear b1 C
    have x0 := mcell (j := 0) X1 rfl
    have x1 := mcell (j := 1) X1 rfl
    have x2 := mcell (j := 2) X1 rfl
    have x3 := mcell (j := 3) X1 rfl
    have x4 := mcell (j := 4) X1 rfl
    have x5 := mcell (j := 5) X1 rfl
    have x6 := mcell (j := 6) X1 rfl
    have x7 := mcell (j := 7) X1 rfl
    have x8 := mcell (j := 8) X1 rfl
    have x9 := mcell (j := 9) X1 rfl
    have x10 := mcell (j := 10) X1 rfl
    have x11 := mcell (j := 11) X1 rfl
    have x12 := mcell (j := 12) X1 rfl
    have x13 := mcell (j := 13) X1 rfl
    have x14 := mcell (j := 14) X1 rfl
    have z0 := frozen_of_row _ _ 0 _ _ X1
    have z1 := frozen_of_row _ _ 1 _ _ X1
    have z2 := frozen_of_row _ _ 2 _ _ X1
    have z3 := frozen_of_row _ _ 3 _ _ X1
    have z4 := frozen_of_row _ _ 4 _ _ X1
    have z5 := frozen_of_row _ _ 5 _ _ X1
    have z6 := frozen_of_row _ _ 6 _ _ X1
    have z7 := frozen_of_row _ _ 7 _ _ X1
    have z8 := frozen_of_row _ _ 8 _ _ X1
    have z9 := frozen_of_row _ _ 9 _ _ X1
    have z10 := frozen_of_row _ _ 10 _ _ X1
    have z11 := frozen_of_row _ _ 11 _ _ X1
    have z12 := frozen_of_row _ _ 12 _ _ X1
    have z13 := frozen_of_row _ _ 13 _ _ X1
    have z14 := frozen_of_row _ _ 14 _ _ X1
    have k1 := (MBox.set14 (MBox.set13 (MBox.set12 (MBox.set11 (MBox.set10 (MBox.set9 (MBox.set8 (MBox.set7 (MBox.set6 (MBox.set5 (MBox.set4 (MBox.set3 (MBox.set2 (MBox.set1 (MBox.set0 X1 (.int .i64 0)) (.int .i64 0)) (.int .i64 0)) (.int .i64 0)) (.int .i64 0)) (.int .i64 0)) (.int .i64 0)) (.int .i64 0)) (.int .i64 0)) (.string ⟨#[]⟩)) (.slice none 0 0)) (.slice none 0 0)) (.slice none 0 0)) (.slice none 0 0)) (.slice none 0 0))
    have q0 := mcell (j := 0) k1 rfl
    have q1 := mcell (j := 1) k1 rfl
    have q2 := mcell (j := 2) k1 rfl
    have q3 := mcell (j := 3) k1 rfl
    have q4 := mcell (j := 4) k1 rfl
    have q5 := mcell (j := 5) k1 rfl
    have q6 := mcell (j := 6) k1 rfl
    have q7 := mcell (j := 7) k1 rfl
    have q8 := mcell (j := 8) k1 rfl
    have q9 := mcell (j := 9) k1 rfl
    have q10 := mcell (j := 10) k1 rfl
    have q11 := mcell (j := 11) k1 rfl
    have q12 := mcell (j := 12) k1 rfl
    have q13 := mcell (j := 13) k1 rfl
    have q14 := mcell (j := 14) k1 rfl
    have HQ := Lib.hid (And.intro q0 (And.intro q1 (And.intro q2 (And.intro q3 (And.intro q4 (And.intro q5 (And.intro q6 (And.intro q7 (And.intro q8 (And.intro q9 (And.intro q10 (And.intro q11 (And.intro q12 (And.intro q13 (And.intro q14 True.intro)))))))))))))))
    have hlx := lt_of_block X1
    have HE := Lib.hid (MsgAns.no (w := w) (o := none) (x := x) rfl (((((((((((((((HB.out.setCell (p := ⟨w.heap.size, 0, none⟩) (Nat.le_refl _) (.int .i64 0)).setCell (p := ⟨w.heap.size, 1, none⟩) (Nat.le_refl _) (.int .i64 0)).setCell (p := ⟨w.heap.size, 2, none⟩) (Nat.le_refl _) (.int .i64 0)).setCell (p := ⟨w.heap.size, 3, none⟩) (Nat.le_refl _) (.int .i64 0)).setCell (p := ⟨w.heap.size, 4, none⟩) (Nat.le_refl _) (.int .i64 0)).setCell (p := ⟨w.heap.size, 5, none⟩) (Nat.le_refl _) (.int .i64 0)).setCell (p := ⟨w.heap.size, 6, none⟩) (Nat.le_refl _) (.int .i64 0)).setCell (p := ⟨w.heap.size, 7, none⟩) (Nat.le_refl _) (.int .i64 0)).setCell (p := ⟨w.heap.size, 8, none⟩) (Nat.le_refl _) (.int .i64 0)).setCell (p := ⟨w.heap.size, 9, none⟩) (Nat.le_refl _) (.string ⟨#[]⟩)).setCell (p := ⟨w.heap.size, 10, none⟩) (Nat.le_refl _) (.slice none 0 0)).setCell (p := ⟨w.heap.size, 11, none⟩) (Nat.le_refl _) (.slice none 0 0)).setCell (p := ⟨w.heap.size, 12, none⟩) (Nat.le_refl _) (.slice none 0 0)).setCell (p := ⟨w.heap.size, 13, none⟩) (Nat.le_refl _) (.slice none 0 0)).setCell (p := ⟨w.heap.size, 14, none⟩) (Nat.le_refl _) (.slice none 0 0)))
    clear q0 q1 q2 q3 q4 q5 q6 q7 q8 q9 q10 q11 q12 q13 q14 k1 X1
    go_wp2
    obtain ⟨q0, q1, q2, q3, q4, q5, q6, q7, q8, q9, q10, q11, q12, q13, q14, -⟩ := HQ.out
    refine bodyPost_ret (v := .tuple #[.agg #[.int .i64 0, .int .i64 0, .int .i64 0, .int .i64 0, .int .i64 0, .int .i64 0, .int .i64 0, .int .i64 0, .int .i64 0, .string ⟨#[]⟩, .slice none 0 0, .slice none 0 0, .slice none 0 0, .slice none 0 0, .slice none 0 0], .int .i64 x]) ?_ rfl HE.out
    simp [results, Try.results15, go_sem, q0, q1, q2, q3, q4, q5, q6, q7, q8, q9, q10, q11, q12, q13, q14]
  | ok p =>
    obtain ⟨i, a⟩ := p
    rw [hn] at C1
    have C := Lib.hid C1
    have HNX := Lib.hid hn
    have hle := (nextF_ok hn).1
    clear C1 hn
    by_cases ha : a = L.length
    · have t1 : ((a : Int) != (n : Int)) = false := by rw [ha, hL]; simp
      have t2 : ((a : Int) == (n : Int)) = true := by rw [ha, hL]; simp
      have HAL := Lib.hid ha
      clear ha
      cases ho : msgR okP i with
      | none =>
        rw [msgRd_none HNX.out HAL.out ho]
        have HO := Lib.hid ho
        clear ho
        go_enter Try.func15, Try.ntmps15
        go_wp2_with fail
        refine C.out.mono ?_
        rintro e w1 ⟨A1, n1, c1, rfl, s1, hc1, -, b1⟩
        have hn1 := s1.len
        have c2 := wholeM_any w1 A1 n1 c1 i s1 hc1 (by omega)
        rw [HO.out] at c2
        have C2 := Lib.hid c2
        have HX1 := Lib.hid (show MBox w1 w.heap.size (.int .i64 0) (.int .i64 0) (.int .i64 0) (.int .i64 0) (.int .i64 0) (.int .i64 0) (.int .i64 0) (.int .i64 0) (.int .i64 0) (.string ⟨#[]⟩) (.slice none 0 0) (.slice none 0 0) (.slice none 0 0) (.slice none 0 0) (.slice none 0 0) from (b1.block _ (lt_of_block HX.out)).trans HX.out)
        have HB1 := Lib.hid (HA.out.trans (b1.mono HA.out.size))
        clear b1 s1 C c2 hn1
        go_wp2_with fail
        refine C2.out.mono ?_
        rintro e w2 ⟨rfl, b2⟩
        have HB := Lib.hid (HB1.out.trans (b2.mono HB1.out.size))
        have X1 := (b2.block _ (lt_of_block HX1.out)).trans HX1.out
        clear b2 C2
        have x0 := mcell (j := 0) X1 rfl
        have x1 := mcell (j := 1) X1 rfl
        have x2 := mcell (j := 2) X1 rfl
        have x3 := mcell (j := 3) X1 rfl
        have x4 := mcell (j := 4) X1 rfl
        have x5 := mcell (j := 5) X1 rfl
        have x6 := mcell (j := 6) X1 rfl
        have x7 := mcell (j := 7) X1 rfl
        have x8 := mcell (j := 8) X1 rfl
        have x9 := mcell (j := 9) X1 rfl
        have x10 := mcell (j := 10) X1 rfl
        have x11 := mcell (j := 11) X1 rfl
        have x12 := mcell (j := 12) X1 rfl
        have x13 := mcell (j := 13) X1 rfl
        have x14 := mcell (j := 14) X1 rfl
        have z0 := frozen_of_row _ _ 0 _ _ X1
        have z1 := frozen_of_row _ _ 1 _ _ X1
        have z2 := frozen_of_row _ _ 2 _ _ X1
        have z3 := frozen_of_row _ _ 3 _ _ X1
        have z4 := frozen_of_row _ _ 4 _ _ X1
        have z5 := frozen_of_row _ _ 5 _ _ X1
        have z6 := frozen_of_row _ _ 6 _ _ X1
        have z7 := frozen_of_row _ _ 7 _ _ X1
        have z8 := frozen_of_row _ _ 8 _ _ X1
        have z9 := frozen_of_row _ _ 9 _ _ X1
        have z10 := frozen_of_row _ _ 10 _ _ X1
        have z11 := frozen_of_row _ _ 11 _ _ X1
        have z12 := frozen_of_row _ _ 12 _ _ X1
        have z13 := frozen_of_row _ _ 13 _ _ X1
        have z14 := frozen_of_row _ _ 14 _ _ X1
        have k1 := (MBox.set14 (MBox.set13 (MBox.set12 (MBox.set11 (MBox.set10 (MBox.set9 (MBox.set8 (MBox.set7 (MBox.set6 (MBox.set5 (MBox.set4 (MBox.set3 (MBox.set2 (MBox.set1 (MBox.set0 X1 (.int .i64 0)) (.int .i64 0)) (.int .i64 0)) (.int .i64 0)) (.int .i64 0)) (.int .i64 0)) (.int .i64 0)) (.int .i64 0)) (.int .i64 0)) (.string ⟨#[]⟩)) (.slice none 0 0)) (.slice none 0 0)) (.slice none 0 0)) (.slice none 0 0)) (.slice none 0 0))
        have q0 := mcell (j := 0) k1 rfl
        have q1 := mcell (j := 1) k1 rfl
        have q2 := mcell (j := 2) k1 rfl
        have q3 := mcell (j := 3) k1 rfl
        have q4 := mcell (j := 4) k1 rfl
        have q5 := mcell (j := 5) k1 rfl
        have q6 := mcell (j := 6) k1 rfl
        have q7 := mcell (j := 7) k1 rfl
        have q8 := mcell (j := 8) k1 rfl
        have q9 := mcell (j := 9) k1 rfl
        have q10 := mcell (j := 10) k1 rfl
        have q11 := mcell (j := 11) k1 rfl
        have q12 := mcell (j := 12) k1 rfl
        have q13 := mcell (j := 13) k1 rfl
        have q14 := mcell (j := 14) k1 rfl
        have HQ := Lib.hid (And.intro q0 (And.intro q1 (And.intro q2 (And.intro q3 (And.intro q4 (And.intro q5 (And.intro q6 (And.intro q7 (And.intro q8 (And.intro q9 (And.intro q10 (And.intro q11 (And.intro q12 (And.intro q13 (And.intro q14 True.intro)))))))))))))))
        have hlx := lt_of_block X1
        have HE := Lib.hid (MsgAns.no (w := w) (o := none) (x := 2) rfl (((((((((((((((HB.out.setCell (p := ⟨w.heap.size, 0, none⟩) (Nat.le_refl _) (.int .i64 0)).setCell (p := ⟨w.heap.size, 1, none⟩) (Nat.le_refl _) (.int .i64 0)).setCell (p := ⟨w.heap.size, 2, none⟩) (Nat.le_refl _) (.int .i64 0)).setCell (p := ⟨w.heap.size, 3, none⟩) (Nat.le_refl _) (.int .i64 0)).setCell (p := ⟨w.heap.size, 4, none⟩) (Nat.le_refl _) (.int .i64 0)).setCell (p := ⟨w.heap.size, 5, none⟩) (Nat.le_refl _) (.int .i64 0)).setCell (p := ⟨w.heap.size, 6, none⟩) (Nat.le_refl _) (.int .i64 0)).setCell (p := ⟨w.heap.size, 7, none⟩) (Nat.le_refl _) (.int .i64 0)).setCell (p := ⟨w.heap.size, 8, none⟩) (Nat.le_refl _) (.int .i64 0)).setCell (p := ⟨w.heap.size, 9, none⟩) (Nat.le_refl _) (.string ⟨#[]⟩)).setCell (p := ⟨w.heap.size, 10, none⟩) (Nat.le_refl _) (.slice none 0 0)).setCell (p := ⟨w.heap.size, 11, none⟩) (Nat.le_refl _) (.slice none 0 0)).setCell (p := ⟨w.heap.size, 12, none⟩) (Nat.le_refl _) (.slice none 0 0)).setCell (p := ⟨w.heap.size, 13, none⟩) (Nat.le_refl _) (.slice none 0 0)).setCell (p := ⟨w.heap.size, 14, none⟩) (Nat.le_refl _) (.slice none 0 0)))
        clear q0 q1 q2 q3 q4 q5 q6 q7 q8 q9 q10 q11 q12 q13 q14 k1 X1
        go_wp2
        obtain ⟨q0, q1, q2, q3, q4, q5, q6, q7, q8, q9, q10, q11, q12, q13, q14, -⟩ := HQ.out
        refine bodyPost_ret (v := .tuple #[.agg #[.int .i64 0, .int .i64 0, .int .i64 0, .int .i64 0, .int .i64 0, .int .i64 0, .int .i64 0, .int .i64 0, .int .i64 0, .string ⟨#[]⟩, .slice none 0 0, .slice none 0 0, .slice none 0 0, .slice none 0 0, .slice none 0 0], .int .i64 2]) ?_ rfl HE.out
        simp [results, Try.results15, go_sem, q0, q1, q2, q3, q4, q5, q6, q7, q8, q9, q10, q11, q12, q13, q14]
      | some m =>
        rw [msgRd_some HNX.out HAL.out ho]
        have HO := Lib.hid ho
        clear ho
        go_enter Try.func15, Try.ntmps15
        go_wp2_with fail
        refine C.out.mono ?_
        rintro e w1 ⟨A1, n1, c1, rfl, s1, hc1, -, b1⟩
        have hn1 := s1.len
        have c2 := wholeM_any w1 A1 n1 c1 i s1 hc1 (by omega)
        rw [HO.out] at c2
        have C2 := Lib.hid c2
        have HX1 := Lib.hid (show MBox w1 w.heap.size (.int .i64 0) (.int .i64 0) (.int .i64 0) (.int .i64 0) (.int .i64 0) (.int .i64 0) (.int .i64 0) (.int .i64 0) (.int .i64 0) (.string ⟨#[]⟩) (.slice none 0 0) (.slice none 0 0) (.slice none 0 0) (.slice none 0 0) (.slice none 0 0) from (b1.block _ (lt_of_block HX.out)).trans HX.out)
        have HB1 := Lib.hid (HA.out.trans (b1.mono HA.out.size))
        have hsz1 := lt_of_block HX1.out
        clear b1 s1 C c2 hn1
        go_wp2_with fail
        refine C2.out.mono ?_
        rintro e w2 ⟨v, rfl, ⟨x, hm, hv, hO⟩, b2⟩
        obtain ⟨⟨kind, fs, fn, ts, tn, id, mn, fo, code, key, recs, vec, path, hashes, route⟩, Ar, nr, cr, Av, nv, cv, Ap, np, cp, Ah, nh, ch, Ao, no, co⟩ := x
        simp only [Mx.cells] at hv hm
        subst hv hm
        have HB := Lib.hid (HB1.out.trans (b2.mono HB1.out.size))
        have X1 := (b2.block _ (lt_of_block HX1.out)).trans HX1.out
        have OE := (hO.keepF ((((((((((((((((Fr.refl (fun i => i = w.heap.size) w2).more (b := w.heap.size) (j := 0) rfl (.int .i64 kind)).more (b := w.heap.size) (j := 1) rfl (.int .i64 fs)).more (b := w.heap.size) (j := 2) rfl (.int .i64 fn)).more (b := w.heap.size) (j := 3) rfl (.int .i64 ts)).more (b := w.heap.size) (j := 4) rfl (.int .i64 tn)).more (b := w.heap.size) (j := 5) rfl (.int .i64 id)).more (b := w.heap.size) (j := 6) rfl (.int .i64 mn)).more (b := w.heap.size) (j := 7) rfl (.int .i64 fo)).more (b := w.heap.size) (j := 8) rfl (.int .i64 code)).more (b := w.heap.size) (j := 9) rfl (.string key)).more (b := w.heap.size) (j := 10) rfl (.slice Ar nr cr)).more (b := w.heap.size) (j := 11) rfl (.slice Av nv cv)).more (b := w.heap.size) (j := 12) rfl (.slice Ap np cp)).more (b := w.heap.size) (j := 13) rfl (.slice Ah nh ch)).more (b := w.heap.size) (j := 14) rfl (.slice Ao no co)) (fun i hi e => by have e2 : i = w.heap.size := e; omega)).lower (show w.heap.size ≤ w1.heap.size by omega)
        clear b2 C2 hO
        have x0 := mcell (j := 0) X1 rfl
        have x1 := mcell (j := 1) X1 rfl
        have x2 := mcell (j := 2) X1 rfl
        have x3 := mcell (j := 3) X1 rfl
        have x4 := mcell (j := 4) X1 rfl
        have x5 := mcell (j := 5) X1 rfl
        have x6 := mcell (j := 6) X1 rfl
        have x7 := mcell (j := 7) X1 rfl
        have x8 := mcell (j := 8) X1 rfl
        have x9 := mcell (j := 9) X1 rfl
        have x10 := mcell (j := 10) X1 rfl
        have x11 := mcell (j := 11) X1 rfl
        have x12 := mcell (j := 12) X1 rfl
        have x13 := mcell (j := 13) X1 rfl
        have x14 := mcell (j := 14) X1 rfl
        have z0 := frozen_of_row _ _ 0 _ _ X1
        have z1 := frozen_of_row _ _ 1 _ _ X1
        have z2 := frozen_of_row _ _ 2 _ _ X1
        have z3 := frozen_of_row _ _ 3 _ _ X1
        have z4 := frozen_of_row _ _ 4 _ _ X1
        have z5 := frozen_of_row _ _ 5 _ _ X1
        have z6 := frozen_of_row _ _ 6 _ _ X1
        have z7 := frozen_of_row _ _ 7 _ _ X1
        have z8 := frozen_of_row _ _ 8 _ _ X1
        have z9 := frozen_of_row _ _ 9 _ _ X1
        have z10 := frozen_of_row _ _ 10 _ _ X1
        have z11 := frozen_of_row _ _ 11 _ _ X1
        have z12 := frozen_of_row _ _ 12 _ _ X1
        have z13 := frozen_of_row _ _ 13 _ _ X1
        have z14 := frozen_of_row _ _ 14 _ _ X1
        have k1 := (MBox.set14 (MBox.set13 (MBox.set12 (MBox.set11 (MBox.set10 (MBox.set9 (MBox.set8 (MBox.set7 (MBox.set6 (MBox.set5 (MBox.set4 (MBox.set3 (MBox.set2 (MBox.set1 (MBox.set0 X1 (.int .i64 kind)) (.int .i64 fs)) (.int .i64 fn)) (.int .i64 ts)) (.int .i64 tn)) (.int .i64 id)) (.int .i64 mn)) (.int .i64 fo)) (.int .i64 code)) (.string key)) (.slice Ar nr cr)) (.slice Av nv cv)) (.slice Ap np cp)) (.slice Ah nh ch)) (.slice Ao no co))
        have q0 := mcell (j := 0) k1 rfl
        have q1 := mcell (j := 1) k1 rfl
        have q2 := mcell (j := 2) k1 rfl
        have q3 := mcell (j := 3) k1 rfl
        have q4 := mcell (j := 4) k1 rfl
        have q5 := mcell (j := 5) k1 rfl
        have q6 := mcell (j := 6) k1 rfl
        have q7 := mcell (j := 7) k1 rfl
        have q8 := mcell (j := 8) k1 rfl
        have q9 := mcell (j := 9) k1 rfl
        have q10 := mcell (j := 10) k1 rfl
        have q11 := mcell (j := 11) k1 rfl
        have q12 := mcell (j := 12) k1 rfl
        have q13 := mcell (j := 13) k1 rfl
        have q14 := mcell (j := 14) k1 rfl
        have HQ := Lib.hid (And.intro q0 (And.intro q1 (And.intro q2 (And.intro q3 (And.intro q4 (And.intro q5 (And.intro q6 (And.intro q7 (And.intro q8 (And.intro q9 (And.intro q10 (And.intro q11 (And.intro q12 (And.intro q13 (And.intro q14 True.intro)))))))))))))))
        have hlx := lt_of_block X1
        have HE := Lib.hid (MsgAns.yes (w := w) (x := 0) rfl ⟨⟨⟨kind, fs, fn, ts, tn, id, mn, fo, code, key, recs, vec, path, hashes, route⟩, Ar, nr, cr, Av, nv, cv, Ap, np, cp, Ah, nh, ch, Ao, no, co⟩, rfl, rfl, OE⟩ (((((((((((((((HB.out.setCell (p := ⟨w.heap.size, 0, none⟩) (Nat.le_refl _) (.int .i64 kind)).setCell (p := ⟨w.heap.size, 1, none⟩) (Nat.le_refl _) (.int .i64 fs)).setCell (p := ⟨w.heap.size, 2, none⟩) (Nat.le_refl _) (.int .i64 fn)).setCell (p := ⟨w.heap.size, 3, none⟩) (Nat.le_refl _) (.int .i64 ts)).setCell (p := ⟨w.heap.size, 4, none⟩) (Nat.le_refl _) (.int .i64 tn)).setCell (p := ⟨w.heap.size, 5, none⟩) (Nat.le_refl _) (.int .i64 id)).setCell (p := ⟨w.heap.size, 6, none⟩) (Nat.le_refl _) (.int .i64 mn)).setCell (p := ⟨w.heap.size, 7, none⟩) (Nat.le_refl _) (.int .i64 fo)).setCell (p := ⟨w.heap.size, 8, none⟩) (Nat.le_refl _) (.int .i64 code)).setCell (p := ⟨w.heap.size, 9, none⟩) (Nat.le_refl _) (.string key)).setCell (p := ⟨w.heap.size, 10, none⟩) (Nat.le_refl _) (.slice Ar nr cr)).setCell (p := ⟨w.heap.size, 11, none⟩) (Nat.le_refl _) (.slice Av nv cv)).setCell (p := ⟨w.heap.size, 12, none⟩) (Nat.le_refl _) (.slice Ap np cp)).setCell (p := ⟨w.heap.size, 13, none⟩) (Nat.le_refl _) (.slice Ah nh ch)).setCell (p := ⟨w.heap.size, 14, none⟩) (Nat.le_refl _) (.slice Ao no co)))
        clear q0 q1 q2 q3 q4 q5 q6 q7 q8 q9 q10 q11 q12 q13 q14 k1 X1 OE
        go_wp2
        obtain ⟨q0, q1, q2, q3, q4, q5, q6, q7, q8, q9, q10, q11, q12, q13, q14, -⟩ := HQ.out
        refine bodyPost_ret (v := .tuple #[.agg #[.int .i64 kind, .int .i64 fs, .int .i64 fn, .int .i64 ts, .int .i64 tn, .int .i64 id, .int .i64 mn, .int .i64 fo, .int .i64 code, .string key, .slice Ar nr cr, .slice Av nv cv, .slice Ap np cp, .slice Ah nh ch, .slice Ao no co], .int .i64 0]) ?_ rfl HE.out
        simp [results, Try.results15, go_sem, q0, q1, q2, q3, q4, q5, q6, q7, q8, q9, q10, q11, q12, q13, q14]
    · rw [msgRd_far HNX.out ha]
      have t1 : ((a : Int) != (n : Int)) = true := by rw [bne_iff_ne]; omega
      have t2 : ((a : Int) == (n : Int)) = false := by rw [beq_eq_false_iff_ne]; omega
      clear ha
      go_enter Try.func15, Try.ntmps15
      go_wp2_with fail
      refine C.out.mono ?_
      rintro e w1 ⟨A1, n1, c1, rfl, s1, hc1, -, b1⟩
      have HB := Lib.hid (HA.out.trans (b1.mono HA.out.size))
      have X1 := (b1.block _ (lt_of_block HX.out)).trans HX.out
      clear b1 C s1
      have x0 := mcell (j := 0) X1 rfl
      have x1 := mcell (j := 1) X1 rfl
      have x2 := mcell (j := 2) X1 rfl
      have x3 := mcell (j := 3) X1 rfl
      have x4 := mcell (j := 4) X1 rfl
      have x5 := mcell (j := 5) X1 rfl
      have x6 := mcell (j := 6) X1 rfl
      have x7 := mcell (j := 7) X1 rfl
      have x8 := mcell (j := 8) X1 rfl
      have x9 := mcell (j := 9) X1 rfl
      have x10 := mcell (j := 10) X1 rfl
      have x11 := mcell (j := 11) X1 rfl
      have x12 := mcell (j := 12) X1 rfl
      have x13 := mcell (j := 13) X1 rfl
      have x14 := mcell (j := 14) X1 rfl
      have z0 := frozen_of_row _ _ 0 _ _ X1
      have z1 := frozen_of_row _ _ 1 _ _ X1
      have z2 := frozen_of_row _ _ 2 _ _ X1
      have z3 := frozen_of_row _ _ 3 _ _ X1
      have z4 := frozen_of_row _ _ 4 _ _ X1
      have z5 := frozen_of_row _ _ 5 _ _ X1
      have z6 := frozen_of_row _ _ 6 _ _ X1
      have z7 := frozen_of_row _ _ 7 _ _ X1
      have z8 := frozen_of_row _ _ 8 _ _ X1
      have z9 := frozen_of_row _ _ 9 _ _ X1
      have z10 := frozen_of_row _ _ 10 _ _ X1
      have z11 := frozen_of_row _ _ 11 _ _ X1
      have z12 := frozen_of_row _ _ 12 _ _ X1
      have z13 := frozen_of_row _ _ 13 _ _ X1
      have z14 := frozen_of_row _ _ 14 _ _ X1
      have k1 := (MBox.set14 (MBox.set13 (MBox.set12 (MBox.set11 (MBox.set10 (MBox.set9 (MBox.set8 (MBox.set7 (MBox.set6 (MBox.set5 (MBox.set4 (MBox.set3 (MBox.set2 (MBox.set1 (MBox.set0 X1 (.int .i64 0)) (.int .i64 0)) (.int .i64 0)) (.int .i64 0)) (.int .i64 0)) (.int .i64 0)) (.int .i64 0)) (.int .i64 0)) (.int .i64 0)) (.string ⟨#[]⟩)) (.slice none 0 0)) (.slice none 0 0)) (.slice none 0 0)) (.slice none 0 0)) (.slice none 0 0))
      have q0 := mcell (j := 0) k1 rfl
      have q1 := mcell (j := 1) k1 rfl
      have q2 := mcell (j := 2) k1 rfl
      have q3 := mcell (j := 3) k1 rfl
      have q4 := mcell (j := 4) k1 rfl
      have q5 := mcell (j := 5) k1 rfl
      have q6 := mcell (j := 6) k1 rfl
      have q7 := mcell (j := 7) k1 rfl
      have q8 := mcell (j := 8) k1 rfl
      have q9 := mcell (j := 9) k1 rfl
      have q10 := mcell (j := 10) k1 rfl
      have q11 := mcell (j := 11) k1 rfl
      have q12 := mcell (j := 12) k1 rfl
      have q13 := mcell (j := 13) k1 rfl
      have q14 := mcell (j := 14) k1 rfl
      have HQ := Lib.hid (And.intro q0 (And.intro q1 (And.intro q2 (And.intro q3 (And.intro q4 (And.intro q5 (And.intro q6 (And.intro q7 (And.intro q8 (And.intro q9 (And.intro q10 (And.intro q11 (And.intro q12 (And.intro q13 (And.intro q14 True.intro)))))))))))))))
      have hlx := lt_of_block X1
      have HE := Lib.hid (MsgAns.no (w := w) (o := none) (x := 2) rfl (((((((((((((((HB.out.setCell (p := ⟨w.heap.size, 0, none⟩) (Nat.le_refl _) (.int .i64 0)).setCell (p := ⟨w.heap.size, 1, none⟩) (Nat.le_refl _) (.int .i64 0)).setCell (p := ⟨w.heap.size, 2, none⟩) (Nat.le_refl _) (.int .i64 0)).setCell (p := ⟨w.heap.size, 3, none⟩) (Nat.le_refl _) (.int .i64 0)).setCell (p := ⟨w.heap.size, 4, none⟩) (Nat.le_refl _) (.int .i64 0)).setCell (p := ⟨w.heap.size, 5, none⟩) (Nat.le_refl _) (.int .i64 0)).setCell (p := ⟨w.heap.size, 6, none⟩) (Nat.le_refl _) (.int .i64 0)).setCell (p := ⟨w.heap.size, 7, none⟩) (Nat.le_refl _) (.int .i64 0)).setCell (p := ⟨w.heap.size, 8, none⟩) (Nat.le_refl _) (.int .i64 0)).setCell (p := ⟨w.heap.size, 9, none⟩) (Nat.le_refl _) (.string ⟨#[]⟩)).setCell (p := ⟨w.heap.size, 10, none⟩) (Nat.le_refl _) (.slice none 0 0)).setCell (p := ⟨w.heap.size, 11, none⟩) (Nat.le_refl _) (.slice none 0 0)).setCell (p := ⟨w.heap.size, 12, none⟩) (Nat.le_refl _) (.slice none 0 0)).setCell (p := ⟨w.heap.size, 13, none⟩) (Nat.le_refl _) (.slice none 0 0)).setCell (p := ⟨w.heap.size, 14, none⟩) (Nat.le_refl _) (.slice none 0 0)))
      clear q0 q1 q2 q3 q4 q5 q6 q7 q8 q9 q10 q11 q12 q13 q14 k1 X1
      go_wp2
      obtain ⟨q0, q1, q2, q3, q4, q5, q6, q7, q8, q9, q10, q11, q12, q13, q14, -⟩ := HQ.out
      refine bodyPost_ret (v := .tuple #[.agg #[.int .i64 0, .int .i64 0, .int .i64 0, .int .i64 0, .int .i64 0, .int .i64 0, .int .i64 0, .int .i64 0, .int .i64 0, .string ⟨#[]⟩, .slice none 0 0, .slice none 0 0, .slice none 0 0, .slice none 0 0, .slice none 0 0], .int .i64 2]) ?_ rfl HE.out
      simp [results, Try.results15, go_sem, q0, q1, q2, q3, q4, q5, q6, q7, q8, q9, q10, q11, q12, q13, q14]
end Go.Proofs.Ytgnedaihchmoaaa
