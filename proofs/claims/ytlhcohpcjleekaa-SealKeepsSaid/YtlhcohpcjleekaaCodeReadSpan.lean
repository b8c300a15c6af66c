/-
  firth/code's reader: a span.
-/
import Derived.Test.YtlhcohpcjleekaaCodeRead
namespace Go.Proofs.Ytlhcohpcjleekaa
open Go.RowKit
set_option linter.unusedVariables false

def spA (x : Sp) : Value := .agg #[.int .i64 x.1, .int .i64 x.2.1, .int .i64 x.2.2]
def SpanAns (w : World) (r : Nat) (A : Option Addr) (n c : Nat) (L : List UInt8) (o : Option (Sp × Nat)) (e : Ending) (w' : World) : Prop :=
  match o with
  | some (x, a) => e = .returned (spA x) ∧ RSt w' r A n c L a ∧ Fr (fun i => i = r) w w'
  | none => e = wrongE ∧ Fr (fun i => i = r) w w'
theorem SpanAns.no {w : World} {r : Nat} {A : Option Addr} {n c : Nat} {L : List UInt8} {o : Option (Sp × Nat)} {w' : World} (ho : o = none) (h : Fr (fun i => i = r) w w') : SpanAns w r A n c L o wrongE w' := by rw [ho]; exact ⟨rfl, h⟩
theorem SpanAns.yes {w : World} {r : Nat} {A : Option Addr} {n c : Nat} {L : List UInt8} {o : Option (Sp × Nat)} {x : Sp} {a : Nat} {w' : World} (ho : o = some (x, a)) (h : RSt w' r A n c L a) (hf : Fr (fun i => i = r) w w') : SpanAns w r A n c L o (.returned (spA x)) w' := by rw [ho]; exact ⟨rfl, h, hf⟩
theorem gSpan_no1 {ok : Nat → Nat → Bool} {L : List UInt8} {a : Nat} (h : pNum L a = none) : gSpan ok L a = none := by unfold gSpan; simp only [h]
theorem gSpan_no2 {ok : Nat → Nat → Bool} {L : List UInt8} {a s a1 : Nat} (h : pNum L a = some (s, a1)) (h2 : pNum L a1 = none) : gSpan ok L a = none := by unfold gSpan; simp only [h, h2]
theorem gSpan_no3 {ok : Nat → Nat → Bool} {L : List UInt8} {a s a1 f a2 : Nat} (h : pNum L a = some (s, a1)) (h2 : pNum L a1 = some (f, a2)) (h3 : pNum L a2 = none) : gSpan ok L a = none := by unfold gSpan; simp only [h, h2, h3]
theorem gSpan_at {ok : Nat → Nat → Bool} {L : List UInt8} {a s a1 f a2 m a3 : Nat} (h : pNum L a = some (s, a1)) (h2 : pNum L a1 = some (f, a2)) (h3 : pNum L a2 = some (m, a3)) :
    gSpan ok L a = if ok f m = true then some (((s : Int), (f : Int), wrap64 ((f : Int) + (m : Int))), a3) else none := by unfold gSpan; simp only [h, h2, h3]
set_option maxHeartbeats 1000000 in
theorem rspan_any {w : World} {r : Nat} {A : Option Addr} {n c : Nat} {L : List UInt8} {a : Nat} (h : RSt w r A n c L a) :
    Calls Try.prog 41 #[.pointer (some ⟨r, 0, none⟩)] w (SpanAns w r A n c L (gSpan okP L a)) := by
  have bA : Below w.heap.size w (w.alloc (.cells #[.int .i64 0, .int .i64 0, .int .i64 0] 45)) := (Below.refl _ _).alloc (Nat.le_refl _) _
  have HA := Lib.hid (Fr.of_below bA (fp := fun i => i = r))
  have hrl := h.lt
  have HL := Lib.hid h.blk
  have X0 := Lib.hid (Box3.new w 45 0 0 0)
  cases h1 : pNum L a with
  | none =>
    have C1 := Lib.hid (rint_no (h.move bA) h1)
    have HN := Lib.hid (gSpan_no1 (ok := okP) h1)
    clear h h1 bA X0
    go_enter Try.func41, Try.ntmps41
    go_wp2_with fail
    refine C1.out.mono ?_
    rintro e w1 ⟨rfl, f1⟩
    exact ⟨rfl, SpanAns.no HN.out (HA.out.trans f1 fun _ h => .inl h)⟩
  | some p1 =>
    obtain ⟨s, a1⟩ := p1
    have C1 := Lib.hid (rint_yes (h.move bA) h1)
    have HP1 := Lib.hid h1
    clear h h1 bA
    go_enter Try.func41, Try.ntmps41
    go_wp2_with fail
    refine C1.out.mono ?_
    rintro e w1 ⟨rfl, h1, f1⟩
    have F1 := Lib.hid (HA.out.trans f1 fun _ h => .inl h)
    have X1 := Lib.hid (box3_fr f1 X0.out (by omega))
    have bB : Below w1.heap.size w1 (w1.alloc (.cells #[.int .i64 (s : Int), .int .i64 0, .int .i64 0] 45)) := (Below.refl _ _).alloc (Nat.le_refl _) _
    have l1 := X1.out.lt
    have r1 := h1.lt
    have FB := Lib.hid (F1.out.trans (Fr.of_below bB (fp := fun i => i = r)) fun _ h => .inl h)
    have Y1 := Lib.hid (Box3.new w1 45 (s : Int) 0 0)
    have X2 := Lib.hid (X1.out.below bB)
    have HR1 := Lib.hid (h1.move bB)
    have HB1 := Lib.hid h1.blk
    clear h1 f1 C1 X0 bB
    cases h2 : pNum L a1 with
    | none =>
      have C2 := Lib.hid (rnum_no HR1.out h2)
      have HN := Lib.hid (gSpan_no2 (ok := okP) HP1.out h2)
      clear h2
      go_wp2_with fail
      refine C2.out.mono ?_
      rintro e w2 ⟨rfl, f2⟩
      exact ⟨rfl, SpanAns.no HN.out (FB.out.trans f2 fun _ h => .inl h)⟩
    | some p2 =>
      obtain ⟨f, a2⟩ := p2
      have C2 := Lib.hid (rnum_yes HR1.out h2)
      have HP2 := Lib.hid h2
      have hf := (pNum_le h2).2.2.2
      clear h2
      go_wp2_with fail
      refine C2.out.mono ?_
      rintro e w2 ⟨rfl, h2, f2⟩
      have Y2 := box3_fr f2 Y1.out (by omega)
      have yf := Y2.fr 1
      have y1 := Y2.c1
      have HY := Lib.hid (box3_set1 Y2 (f : Int))
      have HX := Lib.hid (box3_fr f2 X2.out (by omega))
      have hsz2 : w1.heap.size < w2.heap.size := Y2.lt
      have HR2 := Lib.hid (h2.setOther (b := w1.heap.size) (j := 1) (by omega) (fun b' off s hn e => by have := HB1.out b' off s hn e; omega) (.int .i64 (f : Int)))
      have HF := Lib.hid ((FB.out.trans f2 fun _ h => .inl h).trans (Fr.set w2 ⟨w1.heap.size, 1, none⟩ (.int .i64 (f : Int))) fun i hi => .inr (by have := F1.out.size; have hi2 : i = w1.heap.size := hi; omega))
      clear h2 f2 C2 Y2 Y1 X2 HR1 FB
      go_wp2_with fail
      have HX := Lib.hid ((Below.heap_setCell w2 ⟨w1.heap.size, 1, none⟩ (.int .i64 (f : Int)) w.heap.size (by simp; omega)).trans HX.out)
      have hsz3 : w1.heap.size < (w2.setCell ⟨w1.heap.size, 1, none⟩ (.int .i64 (f : Int))).heap.size := HY.out.lt
      clear yf y1
      generalize w2.setCell ⟨w1.heap.size, 1, none⟩ (.int .i64 (f : Int)) = wc at *
      have hszw := F1.out.size
      cases h3 : pNum L a2 with
      | none =>
        have C3 := Lib.hid (rnum_no (HR2.out.move (Below.refl _ wc).drew) h3)
        have HN := Lib.hid (gSpan_no3 (ok := okP) HP1.out HP2.out h3)
        clear h3
        refine wp_region_held_drew (S := fun w' => w'.cell? ⟨w1.heap.size, 1, none⟩ = some (.int .i64 (f : Int))) (by kernel_rfl) ?_ (fun hHeld => ?_)
        · exact HY.out.c1
        first
          | (refine wpAnyH_take (i := 0) (oi := _) (v := undef) (dropAt rfl) (by kernel_rfl) (by kernel_rfl) (by kernel_rfl) (fun _ _ _ h => h) (Or.inr ⟨by rfl, rfl⟩) (by assumption) ?_)
          | (refine wpAnyH_take (i := 0) (oi := _) (v := ?_) (dropAt rfl) (by kernel_rfl) (by kernel_rfl) (by kernel_rfl) (fun _ _ _ h => h) (Or.inl ⟨by rfl, ?_⟩) (by assumption) ?_; rotate_left; (focus (intro w2 hSw; (try dsimp only at hSw); go_simp; try with_reducible rfl)))
          | fail
        try simp only [Act.put, List.setIfInBounds_toArray, List.set_cons_zero, List.set_cons_succ]
        first
          | (refine wpAnyH_take (i := 1) (oi := _) (v := undef) (dropAt rfl) (by kernel_rfl) (by kernel_rfl) (by kernel_rfl) (fun _ _ _ h => h) (Or.inr ⟨by rfl, rfl⟩) (by assumption) ?_)
          | (refine wpAnyH_take (i := 1) (oi := _) (v := ?_) (dropAt rfl) (by kernel_rfl) (by kernel_rfl) (by kernel_rfl) (fun _ _ _ h => h) (Or.inl ⟨by rfl, ?_⟩) (by assumption) ?_; rotate_left; (focus (intro w2 hSw; (try dsimp only at hSw); go_simp; try with_reducible rfl)))
          | fail
        try simp only [Act.put, List.setIfInBounds_toArray, List.set_cons_zero, List.set_cons_succ]
        first
          | (refine wpAnyH_take (i := 2) (oi := _) (v := undef) (dropAt rfl) (by kernel_rfl) (by kernel_rfl) (by kernel_rfl) (fun _ _ _ h => h) (Or.inr ⟨by rfl, rfl⟩) (by assumption) ?_)
          | (refine wpAnyH_take (i := 2) (oi := _) (v := ?_) (dropAt rfl) (by kernel_rfl) (by kernel_rfl) (by kernel_rfl) (fun _ _ _ h => h) (Or.inl ⟨by rfl, ?_⟩) (by assumption) ?_; rotate_left; (focus (intro w2 hSw; (try dsimp only at hSw); go_simp; try with_reducible rfl)))
          | fail
        try simp only [Act.put, List.setIfInBounds_toArray, List.set_cons_zero, List.set_cons_succ]
        refine wpAnyH_ready (rs := [3]) (by kernel_rfl) (by simp) ?_
        refine AllReadyH.cons (o := _) (dropAt rfl) (fun K hK => ?_) AllReadyH.nil
        go_simp
        go_at_call 47
        refine C3.out.mono ?_
        rintro e w3 ⟨rfl, f3⟩
        exact ⟨rfl, SpanAns.no HN.out ((HF.out.trans (Fr.of_below (Below.refl _ wc).drew (fp := fun _ => False)) (fun _ h => h.elim)).trans f3 fun _ h => .inl h)⟩
      | some p3 =>
        obtain ⟨m, a3⟩ := p3
        have C3 := Lib.hid (rnum_yes (HR2.out.move (Below.refl _ wc).drew) h3)
        have HN := Lib.hid (gSpan_at (ok := okP) HP1.out HP2.out h3)
        obtain ⟨t, ht⟩ : ∃ t, IntKind.i64.wrap ((f : Int) + (m : Int)) = t := ⟨_, rfl⟩
        have HT2 := Lib.hid (show wrap64 ((f : Int) + (m : Int)) = t from by rw [← ht]; simp [wrap64, IntKind.wrap_i64])
        clear h3
        refine wp_region_held_drew (S := fun w' => w'.cell? ⟨w1.heap.size, 1, none⟩ = some (.int .i64 (f : Int))) (by kernel_rfl) ?_ (fun hHeld => ?_)
        · exact HY.out.c1
        first
          | (refine wpAnyH_take (i := 0) (oi := _) (v := undef) (dropAt rfl) (by kernel_rfl) (by kernel_rfl) (by kernel_rfl) (fun _ _ _ h => h) (Or.inr ⟨by rfl, rfl⟩) (by assumption) ?_)
          | (refine wpAnyH_take (i := 0) (oi := _) (v := ?_) (dropAt rfl) (by kernel_rfl) (by kernel_rfl) (by kernel_rfl) (fun _ _ _ h => h) (Or.inl ⟨by rfl, ?_⟩) (by assumption) ?_; rotate_left; (focus (intro w2 hSw; (try dsimp only at hSw); go_simp; try with_reducible rfl)))
          | fail
        try simp only [Act.put, List.setIfInBounds_toArray, List.set_cons_zero, List.set_cons_succ]
        first
          | (refine wpAnyH_take (i := 1) (oi := _) (v := undef) (dropAt rfl) (by kernel_rfl) (by kernel_rfl) (by kernel_rfl) (fun _ _ _ h => h) (Or.inr ⟨by rfl, rfl⟩) (by assumption) ?_)
          | (refine wpAnyH_take (i := 1) (oi := _) (v := ?_) (dropAt rfl) (by kernel_rfl) (by kernel_rfl) (by kernel_rfl) (fun _ _ _ h => h) (Or.inl ⟨by rfl, ?_⟩) (by assumption) ?_; rotate_left; (focus (intro w2 hSw; (try dsimp only at hSw); go_simp; try with_reducible rfl)))
          | fail
        try simp only [Act.put, List.setIfInBounds_toArray, List.set_cons_zero, List.set_cons_succ]
        first
          | (refine wpAnyH_take (i := 2) (oi := _) (v := undef) (dropAt rfl) (by kernel_rfl) (by kernel_rfl) (by kernel_rfl) (fun _ _ _ h => h) (Or.inr ⟨by rfl, rfl⟩) (by assumption) ?_)
          | (refine wpAnyH_take (i := 2) (oi := _) (v := ?_) (dropAt rfl) (by kernel_rfl) (by kernel_rfl) (by kernel_rfl) (fun _ _ _ h => h) (Or.inl ⟨by rfl, ?_⟩) (by assumption) ?_; rotate_left; (focus (intro w2 hSw; (try dsimp only at hSw); go_simp; try with_reducible rfl)))
          | fail
        try simp only [Act.put, List.setIfInBounds_toArray, List.set_cons_zero, List.set_cons_succ]
        refine wpAnyH_ready (rs := [3]) (by kernel_rfl) (by simp) ?_
        refine AllReadyH.cons (o := _) (dropAt rfl) (fun K hK => ?_) AllReadyH.nil
        go_simp
        (go_at_call 47; refine C3.out.mono ?_; rintro e w3 ⟨rfl, h3, f3⟩)
        refine hK.out _ _ ?_ (fun hHeld => ?_)
        · exact (box3_fr f3 (HY.out.below (Below.refl _ wc).drew) (by omega)).c1
        clear hK K
        try simp only [Act.put, List.setIfInBounds_toArray, List.set_cons_zero, List.set_cons_succ]
        have f3' := (Fr.of_below (Below.refl _ wc).drew (fp := fun i => i = r)).trans f3 fun _ h => .inl h
        have Z := box3_fr f3' HY.out (by omega)
        have z1 := Z.c2
        have z2 := Z.fr 2
        first
          | (refine wpAnyH_take (i := 4) (oi := _) (v := undef) (dropAt rfl) (by kernel_rfl) (by kernel_rfl) (by kernel_rfl) (fun _ _ _ h => h) (Or.inr ⟨by rfl, rfl⟩) (by assumption) ?_)
          | (refine wpAnyH_take (i := 4) (oi := _) (v := ?_) (dropAt rfl) (by kernel_rfl) (by kernel_rfl) (by kernel_rfl) (fun _ _ _ h => h) (Or.inl ⟨by rfl, ?_⟩) (by assumption) ?_; rotate_left; (focus (intro w2 hSw; (try dsimp only at hSw); go_simp; try with_reducible rfl)))
          | fail
        try simp only [Act.put, List.setIfInBounds_toArray, List.set_cons_zero, List.set_cons_succ]
        first
          | (refine wpAnyH_take (i := 5) (oi := _) (v := undef) (dropAt rfl) (by kernel_rfl) (by kernel_rfl) (by kernel_rfl) (fun _ _ _ h => h) (Or.inr ⟨by rfl, rfl⟩) (by assumption) ?_)
          | (refine wpAnyH_take (i := 5) (oi := _) (v := ?_) (dropAt rfl) (by kernel_rfl) (by kernel_rfl) (by kernel_rfl) (fun _ _ _ h => h) (Or.inl ⟨by rfl, ?_⟩) (by assumption) ?_; rotate_left; (focus (intro w2 hSw; (try dsimp only at hSw); go_simp; try with_reducible rfl)))
          | fail
        try simp only [Act.put, List.setIfInBounds_toArray, List.set_cons_zero, List.set_cons_succ]
        have HX3 := box3_fr f3' HX.out (by omega)
        have X4 : Box3 (w3.setCell ⟨w1.heap.size, 2, none⟩ (.int .i64 t)) w.heap.size 45 0 0 0 := (Below.heap_setCell w3 ⟨w1.heap.size, 2, none⟩ (.int .i64 t) w.heap.size (by show w.heap.size ≠ w1.heap.size; omega)).trans HX3
        have Z4 := box3_set2 Z t
        have R4 := h3.setOther (b := w1.heap.size) (j := 2) (by omega) (fun b' off s hn e => by have := HB1.out b' off s hn e; omega) (.int .i64 t)
        have F4 := (HF.out.trans f3' fun _ h => .inl h).trans (Fr.set w3 ⟨w1.heap.size, 2, none⟩ (.int .i64 t)) fun i hi => .inr (by have hi2 : i = w1.heap.size := hi; omega)
        have HZ4 := Lib.hid Z4
        have HK := Lib.hid (And.intro X4 (And.intro R4 F4))
        clear HX3 X4 Z4 R4 F4 f3 f3' h3 Z
        refine wpAnyH_ready (rs := [6]) (by kernel_rfl) (by simp) ?_
        refine AllReadyH.cons (o := _) (dropAt rfl) (fun K hK => ?_) AllReadyH.nil
        go_simp
        refine hK.out _ _ ?_ (fun hHeld => ?_)
        · exact HZ4.out.c1
        clear hK K
        try simp only [Act.put, List.setIfInBounds_toArray, List.set_cons_zero, List.set_cons_succ]
        refine wpAnyH_done (by kernel_rfl) ?_ _
        clear hHeld z1 z2
        generalize w3.setCell ⟨w1.heap.size, 2, none⟩ (.int .i64 t) = wd at *
        have d0 := HZ4.out.c0
        have d1 := HZ4.out.c1
        have d2 := HZ4.out.c2
        have e0 := HK.out.1.c0
        have e1 := HK.out.1.c1
        have e2 := HK.out.1.c2
        have k0 := HK.out.1.fr 0
        have k1 := HK.out.1.fr 1
        have k2 := HK.out.1.fr 2
        clear ht
        by_cases hlt : t < (f : Int)
        · go_wp2
          exact ⟨rfl, SpanAns.no (by rw [HN.out, if_neg]; unfold okP; rw [decide_eq_true_eq, HT2.out]; omega) HK.out.2.2⟩
        · go_wp2
          have X5 := HK.out.1.set3 (s : Int) (f : Int) t
          have q0 := X5.c0
          have q1 := X5.c1
          have q2 := X5.c2
          have HE := Lib.hid (show gSpan okP L a = some (((s : Int), (f : Int), t), a3) from by rw [HN.out, HT2.out, if_pos]; unfold okP; rw [decide_eq_true_eq, HT2.out]; omega)
          have lb := HB1.out
          have R5 := ((HK.out.2.1.setOther (b := w.heap.size) (j := 0) (by omega) (fun b' off s hn e => by have := HL.out b' off s hn e; omega) (.int .i64 (s : Int))).setOther (b := w.heap.size) (j := 1) (by omega) (fun b' off s hn e => by have := HL.out b' off s hn e; omega) (.int .i64 (f : Int))).setOther (b := w.heap.size) (j := 2) (by omega) (fun b' off s hn e => by have := HL.out b' off s hn e; omega) (.int .i64 t)
          have F5 := ((HK.out.2.2.trans (Fr.set wd ⟨w.heap.size, 0, none⟩ (.int .i64 (s : Int))) fun i hi => .inr (by have hi2 : i = w.heap.size := hi; omega)).trans (Fr.set _ ⟨w.heap.size, 1, none⟩ (.int .i64 (f : Int))) fun i hi => .inr (by have hi2 : i = w.heap.size := hi; omega)).trans (Fr.set _ ⟨w.heap.size, 2, none⟩ (.int .i64 t)) fun i hi => .inr (by have hi2 : i = w.heap.size := hi; omega)
          exact bodyPost_ret (v := spA ((s : Int), (f : Int), t)) (by simp [results, Try.results41, go_sem, q0, q1, q2, spA]) rfl (SpanAns.yes HE.out R5 F5)
end Go.Proofs.Ytlhcohpcjleekaa
