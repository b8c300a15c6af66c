/-
  firthref03.put lays a span into a right list.
-/
import Derived.Test.YtlcfknpmnoghbaaSpanRefRight
import Derived.Test.YtlcfknpmnoghbaaSpanSame
namespace Go.Proofs.Ytlcfknpmnoghbaa
open Go.RowKit
set_option linter.unusedVariables false

theorem Box3.grown {w w' : World} {g : Nat} {t : TypeId} {x y z : Int} {row : Option Nat} (h : Box3 w g t x y z) (hg : w.grownBy w' row) (hr : some g ≠ row) : Box3 w' g t x y z := (hg.block g h.lt hr).trans h
theorem row_ne {w : World} {base : Nat} {e : TypeId} {size : Nat} {v : Value} {n : Nat} {xs : List Value} (h : w.ownsRow base e size v n xs) {g : Nat} (hg : g < base ∨ w.heap.size ≤ g) : some g ≠ v.ownBlock := by
  intro he
  have := h.lt g he.symm
  omega

theorem Box3.put1 {w : World} {g : Nat} {t : TypeId} {x y z : Int} (h : Box3 w g t x y z) (b : Int) : Box3 (w.setCell ⟨g, 1, none⟩ (.int .i64 b)) g t x b z := by
  have h2 := heap_setCell_same w g 1 _ t (.int .i64 b) h
  unfold Box3
  rw [h2]; rfl
theorem Box3.put2 {w : World} {g : Nat} {t : TypeId} {x y z : Int} (h : Box3 w g t x y z) (c : Int) : Box3 (w.setCell ⟨g, 2, none⟩ (.int .i64 c)) g t x y c := by
  have h2 := heap_setCell_same w g 2 _ t (.int .i64 c) h
  unfold Box3
  rw [h2]; rfl
theorem grown_set (w : World) (p : Addr) (u : Value) : w.grownBy (w.setCell p u) (some p.block) :=
  ⟨rfl, rfl, rfl, by simp, fun k hk hne => Below.heap_setCell w p u k (fun e => hne (by rw [e]))⟩
theorem own_set {w : World} {base : Nat} {e : TypeId} {size : Nat} {v : Value} {n : Nat} {xs : List Value} (h : w.ownsRow base e size v n xs) {g j : Nat} (hg : g < base ∨ w.heap.size ≤ g) (u : Value) : (w.setCell ⟨g, j, none⟩ u).ownsRow base e size v n xs :=
  h.kept (grown_set w ⟨g, j, none⟩ u) (.inr (fun he => row_ne h hg he.symm))

/-- Where put's loop stands: out is laid, what is to come stands behind the first k. -/
def PutAt (l : List Sp) (x0 : Sp) (k : Nat) (laid : Bool) (x : Sp) (out : List Sp) : Prop :=
  out ++ putG laid x (l.drop k) = putG false x0 l ∧ okSp x ∧ out.length ≤ k + 1 ∧ (laid = false → out.length ≤ k)
theorem PutAt.start (l : List Sp) {x : Sp} (hx : okSp x) : PutAt l x 0 false x [] := ⟨by rw [List.drop_zero, List.nil_append], hx, by simp, by simp⟩
theorem drop_cons {l : List Sp} {k : Nat} {y : Sp} (hy : l[k]? = some y) : l.drop k = y :: l.drop (k + 1) := by
  obtain ⟨h, e⟩ := List.getElem?_eq_some_iff.1 hy
  rw [List.drop_eq_getElem_cons h, e]
theorem PutAt.tch {l : List Sp} {x0 x y : Sp} {k : Nat} {laid : Bool} {out : List Sp} (h : PutAt l x0 k laid x out) (hy : l[k]? = some y) (hoy : okSp y) (ht : touch y x) : PutAt l x0 (k + 1) laid (growS y x) out := by
  obtain ⟨h1, h2, h3, h4⟩ := h
  refine ⟨?_, grow_ok h2 hoy ht, by omega, fun h => by have := h4 h; omega⟩
  rw [← h1, drop_cons hy, putG, if_pos ht]
theorem PutAt.keep {l : List Sp} {x0 x y : Sp} {k : Nat} {laid : Bool} {out : List Sp} (h : PutAt l x0 k laid x out) (hy : l[k]? = some y) (ht : ¬ touch y x) (hb : ¬ (laid = false ∧ behind y x)) : PutAt l x0 (k + 1) laid x (out ++ [y]) := by
  obtain ⟨h1, h2, h3, h4⟩ := h
  refine ⟨?_, h2, by simp; omega, fun h => by have := h4 h; simp; omega⟩
  rw [← h1, drop_cons hy, putG, if_neg ht, if_neg hb, List.append_assoc]; rfl
theorem PutAt.lay {l : List Sp} {x0 x y : Sp} {k : Nat} {out : List Sp} (h : PutAt l x0 k false x out) (hy : l[k]? = some y) (ht : ¬ touch y x) (hb : behind y x) : PutAt l x0 (k + 1) true x (out ++ [x] ++ [y]) := by
  obtain ⟨h1, h2, h3, h4⟩ := h
  have := h4 rfl
  refine ⟨?_, h2, by simp; omega, fun h => by cases h⟩
  rw [← h1, drop_cons hy, putG, if_neg ht, if_pos ⟨rfl, hb⟩, List.append_assoc, List.append_assoc]; rfl
theorem PutAt.end_ {l : List Sp} {x0 x : Sp} {k : Nat} {laid : Bool} {out : List Sp} (h : PutAt l x0 k laid x out) (hk : l.length = k) (hl : Norm l) (ho : okSp x0) : putS l x0 = if laid then out else out ++ [x] := by
  rw [← putG_false l x0 hl ho, ← h.1, List.drop_of_length_le (by omega), putG]
  cases laid <;> simp

/-- What put leaves: a new list. -/
theorem own_take {w : World} {base : Nat} {e : TypeId} {v : Value} {acc : List Sp} (h : w.ownsRow base e 3 v acc.length (spV acc)) : ∃ A c, v = .slice A acc.length c ∧ SlS w A acc.length acc ∧ acc.length ≤ c := by
  obtain ⟨A, c, rfl, hc, _⟩ := own_slice h
  exact ⟨A, c, rfl, Sl.of_own h, hc⟩


set_option maxHeartbeats 4000000 in
set_option maxRecDepth 100000 in
theorem put_any (A : Option Addr) (n c : Nat) (l : List Sp) (x1 x2 x3 : Int) (w : World) (hs : SlS w A n l) (hn : n ≤ 2048) (hl : Norm l) (hx : okSp (x1, x2, x3)) :
    Calls Try.prog 46 #[.slice A n c, .agg #[.int .i64 x1, .int .i64 x2, .int .i64 x3]] w (NewSpans w (putS l (x1, x2, x3))) := by
  obtain ⟨i0, hi, hz0, hz1, hz2⟩ := info_parts Try.infoSpan
  have hll := hs.len
  have HB0 := Lib.hid (Box3.new w 42 x1 x2 x3)
  have HX := Lib.hid hx
  have HL := Lib.hid hl
  clear hx hl
  go_enter Try.func46, Try.ntmps46
  go_wp2
  go_loopw [5, 6, 7] (fun v la i wr => ∃ (k : Nat) (laid : Bool) (a1 a2 a3 : Int) (out : List Sp), i = .int .i64 (k : Int) ∧ la = .bool laid ∧ k ≤ n ∧ Hid (PutAt l (x1, x2, x3) k laid (a1, a2, a3) out) ∧ Hid (Box3 wr w.heap.size 42 a1 a2 a3) ∧
    wr.ownsRow (w.heap.size + 1) 42 3 v out.length (spV out) ∧ Below w.heap.size w wr ∧ w.heap.size + 1 ≤ wr.heap.size) (fun _ _ i _ => n - (intOf i).toNat)
  case atStart => exact ⟨0, false, x1, x2, x3, [], rfl, rfl, Nat.zero_le _, PutAt.start l HX.out, HB0, World.ownsRow_nil _ _ _ _, (Below.refl _ _).alloc (Nat.le_refl _) _, by simp⟩
  case round =>
    obtain ⟨k, laid, a1, a2, a3, out, rfl, rfl, hk, Hat, Hbox, hown, hbel, hsz⟩ := hrel
    have hsz0 := hbel.size
    have hlen := Hat.out.2.2.1
    by_cases hlt : k < n
    · obtain ⟨b, off, y1, y2, y3, rfl, hy, hc0, hc1, hc2⟩ := SlS.at_ (Sl.below hs hbel) hlt
      have Hy := Lib.hid hy
      have hoy := HL.out.1 _ (List.mem_of_getElem? hy)
      have hox := Hat.out.2.1
      have HOY := Lib.hid hoy
      unfold okSp at hoy hox
      obtain ⟨o1, o2, o3, o4, o5⟩ := hoy
      obtain ⟨q1, q2, q3, q4, q5⟩ := hox
      simp only at o1 o2 o3 o4 o5 q1 q2 q3 q4 q5
      have R2 := hbel.alloc hsz0 (.cells #[.int .i64 y1, .int .i64 y2, .int .i64 y3] 42)
      have BX := Hbox.out.alloc (.cells #[.int .i64 y1, .int .i64 y2, .int .i64 y3] 42)
      have BY := Box3.new wr 42 y1 y2 y3
      have HBX := Lib.hid BX
      have HBY := Lib.hid BY
      have g0 := Hbox.out.c0
      have g1 := Hbox.out.c1
      have g2 := Hbox.out.c2
      have g3 := Hbox.out.fr 0
      have g4 := Hbox.out.fr 1
      have g5 := Hbox.out.fr 2
      have g6 := Hbox.out.lt
      clear hy BX BY
      have O1 := hown.alloc (.cells #[.int .i64 y1, .int .i64 y2, .int .i64 y3] 42)
      by_cases ht : touch (y1, y2, y3) (a1, a2, a3)
      · have HN0 := Hat.out.tch Hy.out HOY.out ht
        have ht' := ht
        unfold touch at ht
        unfold growS at HN0
        obtain ⟨t1, t2, t3⟩ := ht
        simp only at t1 t2 t3 HN0
        subst t1
        by_cases d1 : y2 < a2
        · have m1 : min y2 a2 = y2 := by omega
          by_cases d2 : a3 < y3
          · have m2 : max y3 a3 = y3 := by omega
            rw [m1, m2] at HN0
            have HN := Lib.hid HN0
            have B1 := Lib.hid (((Hbox.out.put1 y2).put2 y3).alloc (.cells #[.int .i64 y1, .int .i64 y2, .int .i64 y3] 42))
            have O2 := (own_set (own_set hown (g := w.heap.size) (j := 1) (.inl (by omega)) (.int .i64 y2)) (g := w.heap.size) (j := 2) (.inl (by omega)) (.int .i64 y3)).alloc (.cells #[.int .i64 y1, .int .i64 y2, .int .i64 y3] 42)
            have R3 := Lib.hid (((hbel.setCell (p := ⟨w.heap.size, 1, none⟩) (Nat.le_refl _) (.int .i64 y2)).setCell (p := ⟨w.heap.size, 2, none⟩) (Nat.le_refl _) (.int .i64 y3)).alloc (by simp; omega) (.cells #[.int .i64 y1, .int .i64 y2, .int .i64 y3] 42))
            have O3 := Lib.hid O2
            clear HN0 m1 m2 O1 O2 R2 hown hbel ht'
            go_wp2
            go_roundw
            case rel => exact ⟨k + 1, laid, y1, y2, y3, out, by go_num, rfl, by omega, HN, B1, O3.out, R3.out, by simp; omega⟩
            case measure => simp [intOf]; omega
          · have m2 : max y3 a3 = a3 := by omega
            rw [m1, m2] at HN0
            have HN := Lib.hid HN0
            have B1 := Lib.hid ((Hbox.out.put1 y2).alloc (.cells #[.int .i64 y1, .int .i64 y2, .int .i64 y3] 42))
            have O2 := (own_set hown (g := w.heap.size) (j := 1) (.inl (by omega)) (.int .i64 y2)).alloc (.cells #[.int .i64 y1, .int .i64 y2, .int .i64 y3] 42)
            have R3 := Lib.hid ((hbel.setCell (p := ⟨w.heap.size, 1, none⟩) (Nat.le_refl _) (.int .i64 y2)).alloc (by simp; omega) (.cells #[.int .i64 y1, .int .i64 y2, .int .i64 y3] 42))
            have O3 := Lib.hid O2
            clear HN0 m1 m2 O1 O2 R2 hown hbel ht'
            go_wp2
            go_roundw
            case rel => exact ⟨k + 1, laid, y1, y2, a3, out, by go_num, rfl, by omega, HN, B1, O3.out, R3.out, by simp; omega⟩
            case measure => simp [intOf]; omega
        · have m1 : min y2 a2 = a2 := by omega
          by_cases d2 : a3 < y3
          · have m2 : max y3 a3 = y3 := by omega
            rw [m1, m2] at HN0
            have HN := Lib.hid HN0
            have B1 := Lib.hid ((Hbox.out.put2 y3).alloc (.cells #[.int .i64 y1, .int .i64 y2, .int .i64 y3] 42))
            have O2 := (own_set hown (g := w.heap.size) (j := 2) (.inl (by omega)) (.int .i64 y3)).alloc (.cells #[.int .i64 y1, .int .i64 y2, .int .i64 y3] 42)
            have R3 := Lib.hid ((hbel.setCell (p := ⟨w.heap.size, 2, none⟩) (Nat.le_refl _) (.int .i64 y3)).alloc (by simp; omega) (.cells #[.int .i64 y1, .int .i64 y2, .int .i64 y3] 42))
            have O3 := Lib.hid O2
            clear HN0 m1 m2 O1 O2 R2 hown hbel ht'
            go_wp2
            go_roundw
            case rel => exact ⟨k + 1, laid, y1, a2, y3, out, by go_num, rfl, by omega, HN, B1, O3.out, R3.out, by simp; omega⟩
            case measure => simp [intOf]; omega
          · have m2 : max y3 a3 = a3 := by omega
            rw [m1, m2] at HN0
            have HN := Lib.hid HN0
            have R3 := Lib.hid R2
            have O3 := Lib.hid O1
            clear HN0 m1 m2 O1 R2 hown hbel ht'
            go_wp2
            go_roundw
            case rel => exact ⟨k + 1, laid, y1, a2, a3, out, by go_num, rfl, by omega, HN, HBX, O3.out, R3.out, by simp; omega⟩
            case measure => simp [intOf]; omega
      · have HT := Lib.hid ht
        clear hbel
        by_cases hb : laid = false ∧ behind (y1, y2, y3) (a1, a2, a3)
        · obtain ⟨rfl, hb⟩ := hb
          have HN := Lib.hid (Hat.out.lay Hy.out ht hb)
          have hl2 := HN.out.2.2.1
          unfold behind at hb
          simp only at hb
          unfold touch at ht
          simp only at ht
          simp at hl2
          by_cases t1 : y1 = a1
          · subst t1
            have t2 : ¬ y2 - 1 ≤ a3 := by omega
            have t5 : a3 < y2 := by omega
            clear hb ht
            go_wp2_with (at_builtin; refine wpList_append_own _ rfl _ _ 26 rfl (w.heap.size + 1) 42 i0 (.agg #[.int .i64 0, .int .i64 0, .int .i64 0]) 3 24 Try.underlying26 hi hz0 hz1 hz2 rfl (by decide) _ _ _ rfl (World.ownsRow.alloc (O1) _) ⟨wr.heap.size + 1, 0, none⟩ 1 1 _ rfl rfl (cell_three_at _ _ _ _ _ _ (by simp)) (by intro u hu; simp at hu; rcases hu with rfl | rfl | rfl <;> rfl) (by unfold maxLen; omega) (by omega) (by simp; omega) ?_)
            intro v' w2 hown' hgrow _
            have R1 := own_span hown' rfl (show out ++ [(y1, a2, a3)] = _ from rfl)
            have hl3 : (out ++ [(y1, a2, a3)]).length ≤ k + 1 := by simp; omega
            have R3 := below_push R2 O1 hgrow (by simp; omega) (by omega)
            have B1 := (HBX.out.alloc _).grown hgrow (row_ne O1 (.inl (by omega)))
            have BY := (HBY.out.alloc _).grown hgrow (row_ne hown (.inr (Nat.le_refl _)))
            have hz := hgrow.size
            simp at hz
            have y0' := BY.c0
            have y1' := BY.c1
            have y2' := BY.c2
            have HB1 := Lib.hid B1
            clear hown' hgrow O1 R2 hown BY B1
            go_wp2_with (at_builtin; refine wpList_append_own _ rfl _ _ 26 rfl (w.heap.size + 1) 42 i0 (.agg #[.int .i64 0, .int .i64 0, .int .i64 0]) 3 24 Try.underlying26 hi hz0 hz1 hz2 rfl (by decide) _ _ _ rfl (World.ownsRow.alloc (R1) _) ⟨w2.heap.size, 0, none⟩ 1 1 _ rfl rfl (cell_three_at _ _ _ _ _ _ rfl) (by intro u hu; simp at hu; rcases hu with rfl | rfl | rfl <;> rfl) (by unfold maxLen; omega) (by omega) (by simp; omega) ?_)
            intro v'' w3 hown' hgrow _
            have R4 := own_span hown' (by simp) (show out ++ [(y1, a2, a3)] ++ [(y1, y2, y3)] = _ from rfl)
            have R5 := below_push R3 R1 hgrow (by omega) (by omega)
            have B2 := Lib.hid ((HB1.out.alloc _).grown hgrow (row_ne R1 (.inl (by omega))))
            have hz2 := hgrow.size
            simp at hz2
            clear hown' hgrow R1 R3 y0' y1' y2'
            go_wp2
            go_roundw
            case rel => exact ⟨k + 1, true, _, a2, a3, _, by go_num, rfl, by omega, HN, B2, R4, R5, by omega⟩
            case measure => simp [intOf]; omega
          · have t4 : a1 < y1 := by omega
            clear hb ht
            go_wp2_with (at_builtin; refine wpList_append_own _ rfl _ _ 26 rfl (w.heap.size + 1) 42 i0 (.agg #[.int .i64 0, .int .i64 0, .int .i64 0]) 3 24 Try.underlying26 hi hz0 hz1 hz2 rfl (by decide) _ _ _ rfl (World.ownsRow.alloc (O1) _) ⟨wr.heap.size + 1, 0, none⟩ 1 1 _ rfl rfl (cell_three_at _ _ _ _ _ _ (by simp)) (by intro u hu; simp at hu; rcases hu with rfl | rfl | rfl <;> rfl) (by unfold maxLen; omega) (by omega) (by simp; omega) ?_)
            intro v' w2 hown' hgrow _
            have R1 := own_span hown' rfl (show out ++ [(a1, a2, a3)] = _ from rfl)
            have hl3 : (out ++ [(a1, a2, a3)]).length ≤ k + 1 := by simp; omega
            have R3 := below_push R2 O1 hgrow (by simp; omega) (by omega)
            have B1 := (HBX.out.alloc _).grown hgrow (row_ne O1 (.inl (by omega)))
            have BY := (HBY.out.alloc _).grown hgrow (row_ne hown (.inr (Nat.le_refl _)))
            have hz := hgrow.size
            simp at hz
            have y0' := BY.c0
            have y1' := BY.c1
            have y2' := BY.c2
            have HB1 := Lib.hid B1
            clear hown' hgrow O1 R2 hown BY B1
            go_wp2_with (at_builtin; refine wpList_append_own _ rfl _ _ 26 rfl (w.heap.size + 1) 42 i0 (.agg #[.int .i64 0, .int .i64 0, .int .i64 0]) 3 24 Try.underlying26 hi hz0 hz1 hz2 rfl (by decide) _ _ _ rfl (World.ownsRow.alloc (R1) _) ⟨w2.heap.size, 0, none⟩ 1 1 _ rfl rfl (cell_three_at _ _ _ _ _ _ rfl) (by intro u hu; simp at hu; rcases hu with rfl | rfl | rfl <;> rfl) (by unfold maxLen; omega) (by omega) (by simp; omega) ?_)
            intro v'' w3 hown' hgrow _
            have R4 := own_span hown' (by simp) (show out ++ [(a1, a2, a3)] ++ [(y1, y2, y3)] = _ from rfl)
            have R5 := below_push R3 R1 hgrow (by omega) (by omega)
            have B2 := Lib.hid ((HB1.out.alloc _).grown hgrow (row_ne R1 (.inl (by omega))))
            have hz2 := hgrow.size
            simp at hz2
            clear hown' hgrow R1 R3 y0' y1' y2'
            go_wp2
            go_roundw
            case rel => exact ⟨k + 1, true, _, a2, a3, _, by go_num, rfl, by omega, HN, B2, R4, R5, by omega⟩
            case measure => simp [intOf]; omega
        · have HN := Lib.hid (Hat.out.keep Hy.out ht hb)
          have hl2 := HN.out.2.2.1
          have HB := Lib.hid hb
          clear hb ht hown
          simp at hl2
          cases laid
          · by_cases t1 : y1 = a1
            · subst t1
              by_cases t2 : y2 - 1 ≤ a3
              · by_cases t3 : a2 - 1 ≤ y3
                · exact absurd ⟨rfl, t2, t3⟩ HT.out
                · go_wp2_with (at_builtin; refine wpList_append_own _ rfl _ _ 26 rfl (w.heap.size + 1) 42 i0 (.agg #[.int .i64 0, .int .i64 0, .int .i64 0]) 3 24 Try.underlying26 hi hz0 hz1 hz2 rfl (by decide) _ _ _ rfl (World.ownsRow.alloc (O1) _) ⟨wr.heap.size + 1, 0, none⟩ 1 1 _ rfl rfl (cell_three_at _ _ _ _ _ _ (by simp)) (by intro u hu; simp at hu; rcases hu with rfl | rfl | rfl <;> rfl) (by unfold maxLen; omega) (by omega) (by simp; omega) ?_)
                  intro v' w2 hown' hgrow _
                  have R1 := own_span hown' rfl (show out ++ [(y1, y2, y3)] = _ from rfl)
                  have R3 := below_push R2 O1 hgrow (by simp; omega) (by omega)
                  have B1 := Lib.hid ((HBX.out.alloc _).grown hgrow (row_ne O1 (.inl (by omega))))
                  have hz := hgrow.size
                  simp at hz
                  clear hown' hgrow O1 R2
                  go_wp2
                  go_roundw
                  case rel => exact ⟨k + 1, false, _, a2, a3, _, by go_num, rfl, by omega, HN, B1, R1, R3, by omega⟩
                  case measure => simp [intOf]; omega
              · exact absurd ⟨rfl, .inr ⟨rfl, by show a3 < y2; omega⟩⟩ HB.out
            · by_cases t4 : a1 < y1
              · exact absurd ⟨rfl, .inl t4⟩ HB.out
              · go_wp2_with (at_builtin; refine wpList_append_own _ rfl _ _ 26 rfl (w.heap.size + 1) 42 i0 (.agg #[.int .i64 0, .int .i64 0, .int .i64 0]) 3 24 Try.underlying26 hi hz0 hz1 hz2 rfl (by decide) _ _ _ rfl (World.ownsRow.alloc (O1) _) ⟨wr.heap.size + 1, 0, none⟩ 1 1 _ rfl rfl (cell_three_at _ _ _ _ _ _ (by simp)) (by intro u hu; simp at hu; rcases hu with rfl | rfl | rfl <;> rfl) (by unfold maxLen; omega) (by omega) (by simp; omega) ?_)
                intro v' w2 hown' hgrow _
                have R1 := own_span hown' rfl (show out ++ [(y1, y2, y3)] = _ from rfl)
                have R3 := below_push R2 O1 hgrow (by simp; omega) (by omega)
                have B1 := Lib.hid ((HBX.out.alloc _).grown hgrow (row_ne O1 (.inl (by omega))))
                have hz := hgrow.size
                simp at hz
                clear hown' hgrow O1 R2
                go_wp2
                go_roundw
                case rel => exact ⟨k + 1, false, _, a2, a3, _, by go_num, rfl, by omega, HN, B1, R1, R3, by omega⟩
                case measure => simp [intOf]; omega
          · by_cases t1 : y1 = a1
            · subst t1
              by_cases t2 : y2 - 1 ≤ a3
              · by_cases t3 : a2 - 1 ≤ y3
                · exact absurd ⟨rfl, t2, t3⟩ HT.out
                · go_wp2_with (at_builtin; refine wpList_append_own _ rfl _ _ 26 rfl (w.heap.size + 1) 42 i0 (.agg #[.int .i64 0, .int .i64 0, .int .i64 0]) 3 24 Try.underlying26 hi hz0 hz1 hz2 rfl (by decide) _ _ _ rfl (World.ownsRow.alloc (O1) _) ⟨wr.heap.size + 1, 0, none⟩ 1 1 _ rfl rfl (cell_three_at _ _ _ _ _ _ (by simp)) (by intro u hu; simp at hu; rcases hu with rfl | rfl | rfl <;> rfl) (by unfold maxLen; omega) (by omega) (by simp; omega) ?_)
                  intro v' w2 hown' hgrow _
                  have R1 := own_span hown' rfl (show out ++ [(y1, y2, y3)] = _ from rfl)
                  have R3 := below_push R2 O1 hgrow (by simp; omega) (by omega)
                  have B1 := Lib.hid ((HBX.out.alloc _).grown hgrow (row_ne O1 (.inl (by omega))))
                  have hz := hgrow.size
                  simp at hz
                  clear hown' hgrow O1 R2
                  go_wp2
                  go_roundw
                  case rel => exact ⟨k + 1, true, _, a2, a3, _, by go_num, rfl, by omega, HN, B1, R1, R3, by omega⟩
                  case measure => simp [intOf]; omega
              · go_wp2_with (at_builtin; refine wpList_append_own _ rfl _ _ 26 rfl (w.heap.size + 1) 42 i0 (.agg #[.int .i64 0, .int .i64 0, .int .i64 0]) 3 24 Try.underlying26 hi hz0 hz1 hz2 rfl (by decide) _ _ _ rfl (World.ownsRow.alloc (O1) _) ⟨wr.heap.size + 1, 0, none⟩ 1 1 _ rfl rfl (cell_three_at _ _ _ _ _ _ (by simp)) (by intro u hu; simp at hu; rcases hu with rfl | rfl | rfl <;> rfl) (by unfold maxLen; omega) (by omega) (by simp; omega) ?_)
                intro v' w2 hown' hgrow _
                have R1 := own_span hown' rfl (show out ++ [(y1, y2, y3)] = _ from rfl)
                have R3 := below_push R2 O1 hgrow (by simp; omega) (by omega)
                have B1 := Lib.hid ((HBX.out.alloc _).grown hgrow (row_ne O1 (.inl (by omega))))
                have hz := hgrow.size
                simp at hz
                clear hown' hgrow O1 R2
                go_wp2
                go_roundw
                case rel => exact ⟨k + 1, true, _, a2, a3, _, by go_num, rfl, by omega, HN, B1, R1, R3, by omega⟩
                case measure => simp [intOf]; omega
            · go_wp2_with (at_builtin; refine wpList_append_own _ rfl _ _ 26 rfl (w.heap.size + 1) 42 i0 (.agg #[.int .i64 0, .int .i64 0, .int .i64 0]) 3 24 Try.underlying26 hi hz0 hz1 hz2 rfl (by decide) _ _ _ rfl (World.ownsRow.alloc (O1) _) ⟨wr.heap.size + 1, 0, none⟩ 1 1 _ rfl rfl (cell_three_at _ _ _ _ _ _ (by simp)) (by intro u hu; simp at hu; rcases hu with rfl | rfl | rfl <;> rfl) (by unfold maxLen; omega) (by omega) (by simp; omega) ?_)
              intro v' w2 hown' hgrow _
              have R1 := own_span hown' rfl (show out ++ [(y1, y2, y3)] = _ from rfl)
              have R3 := below_push R2 O1 hgrow (by simp; omega) (by omega)
              have B1 := Lib.hid ((HBX.out.alloc _).grown hgrow (row_ne O1 (.inl (by omega))))
              have hz := hgrow.size
              simp at hz
              clear hown' hgrow O1 R2
              go_wp2
              go_roundw
              case rel => exact ⟨k + 1, true, _, a2, a3, _, by go_num, rfl, by omega, HN, B1, R1, R3, by omega⟩
              case measure => simp [intOf]; omega
    · obtain rfl : k = n := by omega
      have HE := Lib.hid (Hat.out.end_ hll HL.out HX.out)
      have g0 := Hbox.out.c0
      have g1 := Hbox.out.c1
      have g2 := Hbox.out.c2
      cases laid
      · go_wp2_with (at_builtin; refine wpList_append_own _ rfl _ _ 26 rfl (w.heap.size + 1) 42 i0 (.agg #[.int .i64 0, .int .i64 0, .int .i64 0]) 3 24 Try.underlying26 hi hz0 hz1 hz2 rfl (by decide) _ _ _ rfl (World.ownsRow.alloc (hown) _) ⟨wr.heap.size, 0, none⟩ 1 1 _ rfl rfl (cell_three_at _ _ _ _ _ _ rfl) (by intro u hu; simp at hu; rcases hu with rfl | rfl | rfl <;> rfl) (by unfold maxLen; omega) (by omega) (by simp; omega) ?_)
        intro v' w2 hown' hgrow _
        have R1 := own_span hown' rfl (show out ++ [(a1, a2, a3)] = _ from rfl)
        have R2 := below_push hbel hown hgrow hsz0 (by omega)
        clear hown' hown hgrow hbel
        obtain ⟨Ar, cr, rfl, hsr, hcr⟩ := own_take R1
        go_wp2
        go_ret
        exact ⟨Ar, _, cr, rfl, by rw [HE.out]; exact hsr, hcr, by rw [HE.out]; exact own_lower R1 (by omega), R2⟩
      · obtain ⟨Ar, cr, rfl, hsr, hcr⟩ := own_take hown
        go_wp2
        go_ret
        exact ⟨Ar, _, cr, rfl, by rw [HE.out]; exact hsr, hcr, by rw [HE.out]; exact own_lower hown (by omega), hbel⟩
end Go.Proofs.Ytlcfknpmnoghbaa
