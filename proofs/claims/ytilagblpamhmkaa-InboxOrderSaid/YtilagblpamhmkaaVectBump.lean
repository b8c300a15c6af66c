/-
  vect.Bump and firthref04.Bump go on by one dot.
-/
import Derived.Test.YtilagblpamhmkaaVectJoin
import Derived.Test.YtilagblpamhmkaaMV
namespace Go.Proofs.Ytilagblpamhmkaa
open Go.RowKit
set_option linter.unusedVariables false

/-- The step is right: the dot is just the next one. -/
def bumpOk (l : List Int) (s d : Int) : Bool := decide (nextOf l s = (s, d, 0))
def bumpL (l : List Int) (s d : Int) : List Int := if bumpOk l s d then l.set (s.toNat - 1) d else []
def bumpE (l : List Int) (s d : Int) : Int := if bumpOk l s d then 0 else 1

theorem nextOf_err (l : List Int) (s : Int) : (nextOf l s).2.2 = 0 ∨ (nextOf l s).2.2 = 1 ∨ (nextOf l s).2.2 = 40 := by
  unfold nextOf
  split
  · exact .inr (.inl rfl)
  · split
    · exact .inr (.inr rfl)
    · exact .inl rfl
theorem nextOf_ok {l : List Int} {s a b : Int} (h : nextOf l s = (a, b, 0)) :
    a = s ∧ rightB l = true ∧ 1 ≤ s ∧ s ≤ (l.length : Int) ∧ l.getD (s.toNat - 1) 0 ≠ 4611686018427387904 ∧ b = l.getD (s.toNat - 1) 0 + 1 := by
  unfold nextOf at h
  split at h
  · simp at h
  · rename_i h1
    split at h
    · simp at h
    · rename_i h2
      simp only [Prod.mk.injEq, and_true] at h
      refine ⟨h.1.symm, ?_, by omega, by omega, h2, h.2.symm⟩
      cases hr : rightB l
      · exact absurd (.inl hr) h1
      · rfl

/-- A dot boxed at block g. -/
def Dot2 (w : World) (g : Nat) (x y : Int) : Prop := w.cell? ⟨g, 0, none⟩ = some (.int .i64 x) ∧ w.cell? ⟨g, 1, none⟩ = some (.int .i64 y)
theorem Dot2.below {w w' : World} {g : Nat} {x y : Int} (h : Dot2 w g x y) (b : Below w.heap.size w w') : Dot2 w' g x y :=
  ⟨(b.cell (World.block_lt_of_cell? w _ h.1)).trans h.1, (b.cell (World.block_lt_of_cell? w _ h.2)).trans h.2⟩
theorem Dot2.lt {w : World} {g : Nat} {x y : Int} (h : Dot2 w g x y) : g < w.heap.size := World.block_lt_of_cell? w _ h.1
theorem Dot2.new (w : World) (x y : Int) (t : TypeId) : Dot2 (w.alloc (.cells #[.int .i64 x, .int .i64 y] t)) w.heap.size x y :=
  ⟨by rw [cell_of_row _ w.heap.size 0 _ _ (0, 0) (heap_alloc_new w _)]; rfl, by rw [cell_of_row _ w.heap.size 1 _ _ (0, 0) (heap_alloc_new w _)]; rfl⟩

/-- An empty slice that was just made owns nothing yet. -/
theorem own_empty (w : World) (e : TypeId) (base g sz : Nat) (hg : g = w.heap.size) (hb : base ≤ g) : (w.alloc (.cells #[] e)).ownsRow base e sz (.slice (some ⟨g, 0, none⟩) 0 0) 0 [] := by
  subst hg
  exact World.ownsRow_lit w #[] 0 hb (by unfold maxLen; omega) (by simp)

theorem bump_none {w w' : World} {l : List Int} {s d : Int} (h : bumpOk l s d = false) (hb : Below w.heap.size w w') : NewVec w (bumpL l s d) (bumpE l s d) (.returned (.tuple #[.slice none 0 0, .int .i64 1])) w' := by
  unfold bumpL bumpE
  rw [h]
  exact ⟨none, 0, 0, rfl, Sl.nil _ _ _, Nat.le_refl _, World.ownsRow_nil _ _ _ _, hb⟩
theorem bump_some {w w' : World} {l : List Int} {s d : Int} {A : Option Addr} {n c : Nat} (h : bumpOk l s d = true) (hc : n ≤ c) (ho : w'.ownsRow w.heap.size 2 1 (.slice A n c) n ((l.set (s.toNat - 1) d).map (Value.int .i64))) (hb : Below w.heap.size w w') :
    NewVec w (bumpL l s d) (bumpE l s d) (.returned (.tuple #[.slice A n c, .int .i64 0])) w' := by
  unfold bumpL bumpE
  rw [h]
  exact ⟨A, n, c, rfl, Sl.of_own ho, hc, ho, hb⟩

/-- The list with one count put anew, built one by one. -/
theorem set_snoc {l : List Int} {k m : Nat} {x d : Int} (hx : l[k]? = some x) (h1 : 1 ≤ m) : (l.set (m - 1) d).take (k + 1) = (l.set (m - 1) d).take k ++ [if k = m - 1 then d else x] := by
  refine take_snoc_some ?_
  rw [List.getElem?_set]
  have hk : k < l.length := (List.getElem?_eq_some_iff.1 hx).1
  by_cases h : m - 1 = k
  · rw [if_pos h, if_pos h.symm, if_pos (by omega)]
  · rw [if_neg h, if_neg (fun e => h e.symm), hx]

set_option maxHeartbeats 1000000 in
set_option maxRecDepth 100000 in
theorem refBump_any (A : Option Addr) (n c : Nat) (l : List Int) (s d : Int) (w : World) (hs : SlI w A n l) (hn : n * 8 ≤ 140737488351232) :
    Calls Try.prog 14 #[.slice A n c, .agg #[.int .i64 s, .int .i64 d]] w (NewVec w (bumpL l s d) (bumpE l s d)) := by
  obtain ⟨i0, hi, hz0, hz1, hz2⟩ := info_parts Try.infoI64
  have hll := hs.len
  have hE := nextOf_err l s
  have C1 := refNext_any A n c l s (w.alloc (.cells #[.int .i64 s, .int .i64 d] 39)) (Sl.alloc hs _) (by omega)
  rcases hN : nextOf l s with ⟨a, b, x⟩
  rw [hN] at C1 hE
  have G1 := Lib.hid C1
  have B1 := Lib.hid (show Below w.heap.size w (w.alloc (.cells #[.int .i64 s, .int .i64 d] 39)) from (Below.refl _ _).alloc (Nat.le_refl _) _)
  have D1 := Lib.hid (Dot2.new w s d 39)
  clear C1
  simp only at hE
  by_cases hx : x = 0
  · subst hx
    clear hE
    obtain ⟨rfl, hr, hs1, hs2, hz, hbz⟩ := nextOf_ok hN
    by_cases hbd : b = d
    · subst hbd
      have HL := Lib.hid (show bumpOk l a b = true by unfold bumpOk; rw [hN]; simp)
      obtain ⟨m, rfl⟩ := Int.eq_ofNat_of_zero_le (show 0 ≤ a by omega)
      have hm1 : 1 ≤ m := by omega
      have hm2 : m ≤ n := by omega
      have S1 := Sl.alloc hs (.cells #[.int .i64 (m : Int), .int .i64 b] 39)
      clear hN hr hs1 hs2 hz hbz
      go_enter Try.func14, Try.ntmps14
      go_wp2_with fail
      refine G1.out.mono ?_
      rintro e w2 ⟨rfl, b2⟩
      have B2 := B1.out.trans (b2.mono B1.out.size)
      have S2 := Sl.below S1 b2
      have D2 := D1.out.below b2
      have D20 := D2.1
      have D21 := D2.2
      have hsz := B2.size
      have hlt := D2.lt
      clear b2 S1
      have BA : Below w2.heap.size w2 (w2.alloc (.cells #[.int .i64 (m : Int), .int .i64 b] 39)) := (Below.refl _ _).alloc (Nat.le_refl _) _
      have ZA : (w2.alloc (.cells #[.int .i64 (m : Int), .int .i64 b] 39)).heap.size = w2.heap.size + 1 := by simp
      have ZH := Lib.hid ZA
      clear ZA
      go_wp2
      go_loopw [8, 9] (fun v i wr => ∃ k : Nat, i = .int .i64 (k : Int) ∧ k ≤ n ∧ wr.ownsRow w2.heap.size 2 1 v k (((l.set (m - 1) b).take k).map (Value.int .i64)) ∧ Below w2.heap.size w2 wr) (fun _ i _ => n - (intOf i).toNat)
      case atStart => exact ⟨0, rfl, Nat.zero_le _, by rw [List.take_zero]; exact World.ownsRow_nil _ _ _ _, BA⟩
      case round =>
        obtain ⟨k, rfl, hk, hown, hbel⟩ := hrel
        have hsz2 := hbel.size
        have D3 := D2.below hbel
        have D30 := D3.1
        have D31 := D3.2
        clear D20 D21
        by_cases hlk : k < n
        · obtain ⟨b', off, x, rfl, hx, hc⟩ := SlI.at_ (Sl.below S2 hbel) hlk
          have HZ := Lib.hid (set_snoc (d := b) hx hm1)
          clear hx
          by_cases hkm : k = m - 1
          · have hb : ((k : Int) == (m : Int) - 1) = true := beq_iff_eq.2 (by omega)
            have HK := Lib.hid hkm
            clear hkm
            go_wp2_with (at_builtin; refine wpList_append_own _ rfl _ _ 23 rfl (w2.heap.size) 2 i0 (.int .i64 0) 1 8 Try.underlying23 hi hz0 hz1 hz2 rfl (by decide) _ _ _ rfl (World.ownsRow.alloc hown _) ⟨(wr).heap.size, 0, none⟩ 1 1 _ rfl rfl (cell_one_new _ _ _) (by intro u hu; simp at hu; subst hu; rfl) (by unfold maxLen; omega) (by omega) (by simp; omega) ?_)
            intro v' w3 hown' hgrow _
            have R1 : w3.ownsRow w2.heap.size 2 1 v' (k + 1) (((l.set (m - 1) b).take (k + 1)).map (Value.int .i64)) := by
              rw [HZ.out, if_pos HK.out, List.map_append]
              simpa using hown'
            have R2 := below_push hbel hown hgrow hsz2 (Nat.le_refl _)
            clear hown' hown hgrow hbel
            go_wp2
            go_roundw
            case rel => exact ⟨k + 1, by go_num, by omega, R1, R2⟩
            case measure => simp [intOf]; omega
          · have hb : ((k : Int) == (m : Int) - 1) = false := beq_eq_false_iff_ne.2 (by omega)
            have HK := Lib.hid hkm
            clear hkm
            go_wp2_with (at_builtin; refine wpList_append_own _ rfl _ _ 23 rfl (w2.heap.size) 2 i0 (.int .i64 0) 1 8 Try.underlying23 hi hz0 hz1 hz2 rfl (by decide) _ _ _ rfl (World.ownsRow.alloc hown _) ⟨(wr).heap.size, 0, none⟩ 1 1 _ rfl rfl (cell_one_new _ _ _) (by intro u hu; simp at hu; subst hu; rfl) (by unfold maxLen; omega) (by omega) (by simp; omega) ?_)
            intro v' w3 hown' hgrow _
            have R1 : w3.ownsRow w2.heap.size 2 1 v' (k + 1) (((l.set (m - 1) b).take (k + 1)).map (Value.int .i64)) := by
              rw [HZ.out, if_neg HK.out, List.map_append]
              simpa using hown'
            have R2 := below_push hbel hown hgrow hsz2 (Nat.le_refl _)
            clear hown' hown hgrow hbel
            go_wp2
            go_roundw
            case rel => exact ⟨k + 1, by go_num, by omega, R1, R2⟩
            case measure => simp [intOf]; omega
        · obtain rfl : k = n := by omega
          rw [List.take_of_length_le (by simp; omega)] at hown
          have BF := B2.trans (hbel.mono hsz)
          obtain ⟨Ar, cr, rfl, hcr, hmr⟩ := own_slice hown
          have R := Lib.hid (own_lower hown hsz)
          clear hown hbel B2
          go_wp2
          go_ret2
          refine bump_some HL.out hcr ?_ BF
          rw [Int.toNat_natCast]
          exact R.out
    · have HL := Lib.hid (show bumpOk l a d = false by unfold bumpOk; rw [hN]; simp [hbd])
      have hb : (b == d) = false := beq_eq_false_iff_ne.2 hbd
      clear hN hr hs1 hs2 hz hbz hbd
      go_enter Try.func14, Try.ntmps14
      go_wp2_with fail
      refine G1.out.mono ?_
      rintro e w2 ⟨rfl, b2⟩
      have B2 := B1.out.trans (b2.mono B1.out.size)
      have D2 := D1.out.below b2
      have D20 := D2.1
      have D21 := D2.2
      have hsz := B2.size
      have hlt := D2.lt
      clear b2
      go_wp2
      go_ret2
      exact bump_none HL.out (B2.alloc hsz _)
  · have HL := Lib.hid (show bumpOk l s d = false by unfold bumpOk; rw [hN]; simp [hx])
    have hx1 : (x != 0) = true := by rw [bne_iff_ne]; exact hx
    clear hE hx hN
    go_enter Try.func14, Try.ntmps14
    go_wp2_with fail
    refine G1.out.mono ?_
    rintro e w2 ⟨rfl, b2⟩
    have B2 := B1.out.trans (b2.mono B1.out.size)
    have D2 := D1.out.below b2
    have D20 := D2.1
    have D21 := D2.2
    have hsz := B2.size
    clear b2
    go_wp2
    go_ret2
    exact bump_none HL.out (B2.alloc hsz _)
end Go.Proofs.Ytilagblpamhmkaa
