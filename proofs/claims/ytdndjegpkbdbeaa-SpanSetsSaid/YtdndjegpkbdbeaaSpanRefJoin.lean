/-
  firthref03.Join, Add and Within.
-/
import Derived.Test.YtdndjegpkbdbeaaSpanPut
import Derived.Test.YtdndjegpkbdbeaaSpanWithinPlain
namespace Go.Proofs.Ytdndjegpkbdbeaa
open Go.RowKit
set_option linter.unusedVariables false

/-- What comes of two sets put together: the list and the error's number. -/
noncomputable def joinSL (a b : List Sp) : List Sp := if rightS a = true ∧ rightS b = true ∧ (mergeL a b).length ≤ 1024 then mergeL a b else []
noncomputable def joinSE (a b : List Sp) : Int := if rightS a = true ∧ rightS b = true then (if (mergeL a b).length ≤ 1024 then 0 else 30) else 1
theorem joinS_wrong {a b : List Sp} (h : ¬ (rightS a = true ∧ rightS b = true)) : joinSL a b = [] ∧ joinSE a b = 1 := by
  unfold joinSL joinSE
  rw [if_neg (fun h' => h ⟨h'.1, h'.2.1⟩), if_neg h]; exact ⟨rfl, rfl⟩
theorem joinS_full {a b : List Sp} (ha : rightS a = true) (hb : rightS b = true) (h : 1024 < (mergeL a b).length) : joinSL a b = [] ∧ joinSE a b = 30 := by
  unfold joinSL joinSE
  rw [if_neg (fun h' => absurd h'.2.2 (by omega)), if_pos ⟨ha, hb⟩, if_neg (by omega)]; exact ⟨rfl, rfl⟩
theorem joinS_yes {a b : List Sp} (ha : rightS a = true) (hb : rightS b = true) (h : (mergeL a b).length ≤ 1024) : joinSL a b = mergeL a b ∧ joinSE a b = 0 := by
  unfold joinSL joinSE
  rw [if_pos ⟨ha, hb, h⟩, if_pos ⟨ha, hb⟩, if_pos h]; exact ⟨rfl, rfl⟩

/-- What a call leaves that answers new spans and an error's number. -/
def NewSpansE (w : World) (l : List Sp) (x : Int) (e : Ending) (w' : World) : Prop :=
  ∃ A n c, e = .returned (.tuple #[.slice A n c, .int .i64 x]) ∧ SlS w' A n l ∧ n ≤ c ∧ w'.ownsRow w.heap.size 37 3 (.slice A n c) n (spV l) ∧ Below w.heap.size w w'
theorem NewSpansE.nil {w w' : World} {x : Int} (b : Below w.heap.size w w') : NewSpansE w [] x (.returned (.tuple #[.slice none 0 0, .int .i64 x])) w' :=
  ⟨none, 0, 0, rfl, Sl.nil _ _ _, Nat.le_refl _, World.ownsRow_nil _ _ _ _, b⟩

/-- The first k spans of b are laid into a. -/
def FoldTo (a b : List Sp) (k : Nat) (cur : List Sp) : Prop := cur = (b.take k).foldl putS a ∧ Norm cur ∧ cur.length ≤ a.length + k
theorem putS_len : ∀ (l : List Sp) (x : Sp), (putS l x).length ≤ l.length + 1
  | [], x => by simp [putS]
  | y :: l, x => by
    rw [putS]
    split
    · have := putS_len l (growS y x); simp; omega
    · split
      · simp
      · have := putS_len l x; simp; omega
theorem FoldTo.start {a : List Sp} (b : List Sp) (ha : Norm a) : FoldTo a b 0 a := ⟨by simp, ha, by omega⟩
theorem FoldTo.step {a b cur : List Sp} {k : Nat} {x : Sp} (h : FoldTo a b k cur) (hx : b[k]? = some x) (ho : okSp x) : FoldTo a b (k + 1) (putS cur x) := by
  obtain ⟨h1, h2, h3⟩ := h
  refine ⟨?_, (putS_norm cur x h2 ho).1, by have := putS_len cur x; omega⟩
  rw [List.take_add_one, hx, List.foldl_append, ← h1]; rfl
theorem FoldTo.all {a b cur : List Sp} {n : Nat} (h : FoldTo a b n cur) (hn : b.length = n) (ha : Norm a) (hb : Norm b) : cur = mergeL a b := by
  rw [merge_eq ha hb, h.1, List.take_of_length_le (by omega)]

set_option maxHeartbeats 1000000 in
set_option maxRecDepth 100000 in
theorem refJoinS_any (A1 A2 : Option Addr) (n1 n2 c1 c2 : Nat) (l1 l2 : List Sp) (w : World) (h1 : SlS w A1 n1 l1) (h2 : SlS w A2 n2 l2) (hn1 : n1 ≤ 140737488351232) (hn2 : n2 ≤ 140737488351232) :
    Calls Try.prog 16 #[.slice A1 n1 c1, .slice A2 n2 c2] w (NewSpansE w (joinSL l1 l2) (joinSE l1 l2)) := by
  obtain ⟨i0, hi, hz0, hz1, hz2⟩ := info_parts Try.infoSpan
  have e1 := h1.len
  have e2 := h2.len
  have C1 := refRightS_any A1 n1 c1 l1 w h1 hn1
  have C2 := fun W (h : SlS W A2 n2 l2) => refRightS_any A2 n2 c2 l2 W h hn2
  cases hr1 : rightS l1
  · obtain ⟨f1, f2⟩ := joinS_wrong (a := l1) (b := l2) (by rw [hr1]; simp)
    rw [f1, f2]
    rw [hr1] at C1
    have D1 := Lib.hid C1
    clear C1 C2 hr1 f1 f2
    go_enter Try.func16, Try.ntmps16
    go_wp2_with fail
    refine D1.out.mono ?_
    rintro e w1 ⟨rfl, b1⟩
    go_wp2
    go_ret2
    exact NewSpansE.nil b1
  · cases hr2 : rightS l2
    · obtain ⟨f1, f2⟩ := joinS_wrong (a := l1) (b := l2) (by rw [hr2]; simp)
      rw [f1, f2]
      rw [hr1] at C1
      simp only [hr2] at C2
      have D1 := Lib.hid C1
      have D2 := Lib.hid C2
      clear C1 C2 hr1 hr2 f1 f2
      go_enter Try.func16, Try.ntmps16
      go_wp2_with fail
      refine D1.out.mono ?_
      rintro e w1 ⟨rfl, b1⟩
      have D3 := Lib.hid (D2.out w1 (Sl.below h2 b1))
      go_wp2_with fail
      refine D3.out.mono ?_
      rintro e w2 ⟨rfl, b2⟩
      go_wp2
      go_ret2
      exact NewSpansE.nil (b1.trans (b2.mono b1.size))
    · have N1 := (rightS_true.1 hr1)
      have N2 := (rightS_true.1 hr2)
      have l1n := N1.2
      have l2n := N2.2
      have M1 := Lib.hid N1.1
      have M2 := Lib.hid N2.1
      have HR := Lib.hid (And.intro hr1 hr2)
      rw [hr1] at C1
      simp only [hr2] at C2
      have D1 := Lib.hid C1
      have D2 := Lib.hid C2
      clear C1 C2 hr1 hr2 N1 N2
      go_enter Try.func16, Try.ntmps16
      go_wp2_with fail
      refine D1.out.mono ?_
      rintro e w1 ⟨rfl, b1⟩
      have D3 := Lib.hid (D2.out w1 (Sl.below h2 b1))
      go_wp2_with fail
      refine D3.out.mono ?_
      rintro e w2 ⟨rfl, b2⟩
      have S1 := Sl.below (Sl.below h1 b1) b2
      have S2 := Sl.below (Sl.below h2 b1) b2
      have B2 := b1.trans (b2.mono b1.size)
      have y2 := B2.size
      clear D1 D2 D3 b1 b2 h1 h2
      go_wp2_with (at_builtin; refine wpList_append_sl _ rfl (.tmp 16) (.tmp 17) 22 rfl (w2.heap.size) 37 i0 (.agg #[.int .i64 0, .int .i64 0, .int .i64 0]) 3 24 Try.underlying22 hi hz0 hz1 hz2 rfl (by decide) (.slice none 0 0) (0) ([]) rfl (World.ownsRow_nil _ _ _ _) (A1) (n1) (c1) (spV l1) rfl (S1) (spV_one _) (by unfold maxLen; omega) (by omega) (Nat.le_refl _) ?_)
      intro vx w3 own3 g3 _
      have B3' := below_grow (Below.refl w2.heap.size w2) (World.ownsRow_nil _ w2.heap.size 37 3) g3 (Nat.le_refl _) (Nat.le_refl _)
      have S2 := Sl.below S2 B3'
      have B3 := B2.trans (B3'.mono y2)
      have y3 := B3.size
      have y3' := B3'.size
      have own3' : w3.ownsRow w2.heap.size 37 3 vx l1.length (spV l1) := by rw [e1]; simpa using own3
      clear g3 B2 B3' own3 S1
      go_wp2
      go_loopw [6, 7] (fun v i wr => ∃ (k : Nat) (cur : List Sp), i = .int .i64 (k : Int) ∧ k ≤ n2 ∧ Hid (FoldTo l1 l2 k cur) ∧ wr.ownsRow w2.heap.size 37 3 v cur.length (spV cur) ∧ Below w3.heap.size w3 wr) (fun _ i _ => n2 - (intOf i).toNat)
      case atStart => exact ⟨0, l1, rfl, Nat.zero_le _, FoldTo.start l2 M1.out, own3', Below.refl _ _⟩
      case round =>
        obtain ⟨k, cur, rfl, hk, HF, hown, hbel⟩ := hrel
        have hsz := hbel.size
        have hcl := HF.out.2.2
        obtain ⟨A, c, rfl, hsl, hcc⟩ := own_take hown
        by_cases hlt : k < n2
        · obtain ⟨b, off, x, y, z, rfl, hx, hc0, hc1, hc2⟩ := SlS.at_ (Sl.below S2 hbel) hlt
          have ho := M2.out.1 _ (List.mem_of_getElem? hx)
          have HN := Lib.hid (HF.out.step hx ho)
          have HP := Lib.hid (put_any A cur.length c cur x y z wr hsl (by omega) HF.out.2.1 ho)
          clear hx ho hown hsl
          go_wp2_with fail
          refine HP.out.mono ?_
          rintro e w4 ⟨A4, n4, c4, rfl, s4, hc4, own4, b4⟩
          have hl4 := Lib.hid (SlS.len s4)
          have R1 := own_lower own4 (show w2.heap.size ≤ wr.heap.size by omega)
          have R2 := hbel.trans (b4.mono hsz)
          clear hbel own4 b4 s4 HP
          go_wp2
          go_roundw
          case rel => exact ⟨k + 1, _, by go_num, by omega, HN, by rw [hl4.out]; exact R1, R2⟩
          case measure => simp [intOf]; omega
        · obtain rfl : k = n2 := by omega
          have HE := Lib.hid (HF.out.all e2 M1.out M2.out)
          have BF := B3.trans (hbel.mono y3)
          by_cases hlong : 1024 < cur.length
          · have HJ := Lib.hid (joinS_full HR.out.1 HR.out.2 (by rw [← HE.out]; exact hlong))
            clear hown hsl
            go_wp2
            go_ret2
            rw [HJ.out.1, HJ.out.2]
            exact NewSpansE.nil BF
          · have HJ := Lib.hid (joinS_yes HR.out.1 HR.out.2 (by rw [← HE.out]; omega))
            go_wp2
            go_ret2
            rw [HJ.out.1, HJ.out.2, ← HE.out]
            exact ⟨A, _, c, rfl, hsl, hcc, own_lower hown (by omega), BF⟩
end Go.Proofs.Ytdndjegpkbdbeaa
