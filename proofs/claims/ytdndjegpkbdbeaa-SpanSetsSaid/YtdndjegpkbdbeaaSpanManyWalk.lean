/-
  The walk of firthlaw03.SpanMany.
-/
import Derived.Test.YtdndjegpkbdbeaaSpanGrowsPlain
namespace Go.Proofs.Ytdndjegpkbdbeaa
open Go.RowKit
set_option linter.unusedVariables false

theorem Box2.below {w w' : World} {g : Nat} {t : TypeId} {x y : Int} (h : Box2 w g t x y) (b : Below w.heap.size w w') : Box2 w' g t x y := (b.block g h.lt).trans h
/-- As many spans of one dot each, so far apart. -/
def manyL (st : Int) (k : Nat) : List Sp := (List.range k).map fun (i : Nat) => ((3 : Int), 1 + (i : Int) * st, 1 + (i : Int) * st)
theorem manyL_len (st : Int) (k : Nat) : (manyL st k).length = k := by simp [manyL]
theorem manyL_succ (st : Int) (k : Nat) : manyL st (k + 1) = manyL st k ++ [(3, 1 + (k : Int) * st, 1 + (k : Int) * st)] := by simp [manyL, List.range_succ]
theorem many_bd {st : Int} (h2 : 2 ≤ st) (h3 : st ≤ 257) {i : Nat} (hi : i ≤ 1024) : 0 ≤ (i : Int) * st ∧ (i : Int) * st ≤ 263168 := by
  refine ⟨Int.mul_nonneg (by omega) (by omega), ?_⟩
  have h := Int.mul_le_mul (show (i : Int) ≤ 1024 by omega) h3 (by omega) (by omega)
  omega
theorem many_lt {st : Int} (h2 : 2 ≤ st) {i j : Nat} (hij : i < j) : (i : Int) * st + 2 ≤ (j : Int) * st := by
  have h := Int.mul_le_mul_of_nonneg_right (show (i : Int) + 1 ≤ (j : Int) by omega) (show (0 : Int) ≤ st by omega)
  rw [Int.add_mul] at h
  omega
theorem many_right {st : Int} (h2 : 2 ≤ st) (h3 : st ≤ 257) : rightS (manyL st 1024) = true := by
  refine rightS_lit (fun x hx => ?_) ?_ (by rw [manyL_len]; omega)
  · simp only [manyL, List.mem_map, List.mem_range] at hx
    obtain ⟨i, hi, rfl⟩ := hx
    have := many_bd h2 h3 (i := i) (by omega)
    exact ok_lit _ _ _ (by omega)
  · unfold manyL
    rw [List.pairwise_map]
    refine List.Pairwise.imp ?_ List.pairwise_lt_range
    intro i j hij
    have := many_lt h2 hij
    exact .inr ⟨rfl, by show 1 + (i : Int) * st + 1 < 1 + (j : Int) * st; omega⟩
theorem many_self {st : Int} (h2 : 2 ≤ st) (h3 : st ≤ 257) {j : Nat} (hj : j < 1024) :
    addSL (manyL st 1024) 3 (1 + (j : Int) * st) = manyL st 1024 ∧ addSE (manyL st 1024) 3 (1 + (j : Int) * st) = 0 := by
  have hb := many_bd h2 h3 (i := j) (by omega)
  have hd : dotB 3 (1 + (j : Int) * st) = true := dotB_true.2 (by omega)
  obtain ⟨e1, e2⟩ := addS_yes (l := manyL st 1024) hd
  obtain ⟨e3, e4⟩ := joinS_self (many_right h2 h3) (rightS_one _ _ hd) (fun s n h => by
    obtain ⟨x, hx, hi⟩ := h
    rw [List.mem_singleton] at hx
    subst hx
    refine ⟨(3, 1 + (j : Int) * st, 1 + (j : Int) * st), ?_, hi⟩
    simp only [manyL, List.mem_map, List.mem_range]
    exact ⟨j, hj, rfl⟩)
  rw [e1, e2]
  exact ⟨e3, e4⟩

set_option maxHeartbeats 2000000 in
set_option maxRecDepth 100000 in
theorem spanMany_walk (g at_ : Int) (dx dy : Int) (w : World) (wg : (Lit.int .u8 g).wf = true) (wa : (Lit.int .u16 at_).wf = true) (wx : (Lit.int .i64 dx).wf = true) (wy : (Lit.int .i64 dy).wf = true) :
    Calls Try.prog 5 #[.int .u8 g, .int .u16 at_, .agg #[.int .i64 dx, .int .i64 dy]] w fun e w' => e = .returned (.bool true) ∧ Below w.heap.size w w' := by
  obtain ⟨i0, hi, hz0, hz1, hz2⟩ := info_parts Try.infoSpan
  have hg := bounds_u8 wg
  have ha : 0 ≤ at_ ∧ at_ ≤ 65535 := by
    simp [Lit.wf, IntKind.min, IntKind.max, IntKind.signed, IntKind.bits] at wa
    omega
  obtain ⟨g0, g1⟩ := hg
  obtain ⟨a0, a1⟩ := ha
  obtain ⟨j, hj⟩ := Int.eq_ofNat_of_zero_le (show 0 ≤ at_ % 1024 by omega)
  have hj2 : j < 1024 := by omega
  obtain ⟨st, hst⟩ : ∃ st : Int, g + 2 = st := ⟨_, rfl⟩
  have st2 : 2 ≤ st := by omega
  have st3 : st ≤ 257 := by omega
  have HR := Lib.hid (many_right st2 st3)
  have HM := Lib.hid (many_self st2 st3 hj2)
  obtain ⟨p0, p1⟩ := many_bd st2 st3 (i := j) (by omega)
  have D0 := Lib.hid (Box2.new w 24 dx dy)
  have B0 : Below w.heap.size w (w.alloc (.cells #[.int .i64 dx, .int .i64 dy] 24)) := (Below.refl _ _).alloc (Nat.le_refl _) _
  have HB0 := Lib.hid B0
  clear wg wa wx wy B0
  go_enter Try.func5, Try.ntmps5
  go_wp2_with fail
  refine (awakeS_any _).mono ?_
  rintro e w1 ⟨rfl, b1⟩
  have B1 := HB0.out.trans (b1.mono HB0.out.size)
  have z1 := B1.size
  have D1 := Lib.hid (D0.out.below b1)
  clear b1
  go_wp2
  go_loopw [9, 10] (fun v i wr => ∃ k : Nat, i = .int .i64 (k : Int) ∧ k ≤ 1024 ∧ wr.ownsRow w1.heap.size 37 3 v (manyL st k).length (spV (manyL st k)) ∧ Below w1.heap.size w1 wr) (fun _ i _ => 1024 - (intOf i).toNat)
  case atStart => exact ⟨0, rfl, by omega, by rw [manyL_len]; exact World.ownsRow_nil _ _ _ _, Below.refl _ _⟩
  case round =>
    obtain ⟨k, rfl, hk, hown, hbel⟩ := hrel
    have hsz := hbel.size
    have hml := manyL_len st k
    by_cases hlt : k < 1024
    · obtain ⟨q0, q1⟩ := many_bd st2 st3 (i := k) (by omega)
      have hlo : (manyL st k).length ≤ 1024 := by omega
      clear hml
      go_wp2_with (at_builtin; refine wpList_append_own _ rfl _ _ 22 rfl (w1.heap.size) 37 i0 (.agg #[.int .i64 0, .int .i64 0, .int .i64 0]) 3 24 Try.underlying22 hi hz0 hz1 hz2 rfl (by decide) _ _ _ rfl (World.ownsRow.alloc hown _) ⟨(wr).heap.size, 0, none⟩ 1 1 _ rfl rfl (cell_three_new _ _ _ _ _) (by intro u hu; simp at hu; rcases hu with rfl | rfl | rfl <;> rfl) (by unfold maxLen; omega) (by omega) (by simp; omega) ?_)
      intro v' w2 hown' hgrow _
      have R1 := own_span hown' rfl (manyL_succ st k)
      have R2 := below_push hbel hown hgrow hsz (Nat.le_refl _)
      clear hown' hown hgrow hbel
      go_wp2
      go_roundw
      case rel => exact ⟨k + 1, by go_num, by omega, R1, R2⟩
      case measure => simp [intOf]; omega
    · obtain rfl : k = 1024 := by omega
      obtain ⟨A, c, rfl, hsl, hc⟩ := own_take hown
      rw [hml] at hsl hc
      have B2 := B1.trans (hbel.mono z1)
      have z2 := B2.size
      have D2 := Lib.hid (D1.out.below hbel)
      have HML := Lib.hid hml
      clear hown hbel hst hml
      have ha := addSL_len (manyL st 1024) dx dy
      obtain ⟨L, hL⟩ : ∃ L, L = manyL st 1024 := ⟨_, rfl⟩
      rw [← hL] at hsl ha
      have hM := HM.out
      have hR := HR.out
      rw [← hL] at hM hR
      have C1 := Lib.hid (spanAdd_any A 1024 c L dx dy wr hsl (by omega) hc)
      have HM := Lib.hid hM
      have HR := Lib.hid hR
      clear hL hM hR HML
      have d0 := D2.out.c0
      have d1 := D2.out.c1
      go_wp2_with fail
      refine C1.out.mono ?_
      rintro e w3 ⟨A3, n3, c3, rfl, s3, hc3, -, b3⟩
      have S3 := Sl.below hsl b3
      have D3 := D2.out.below b3
      have B3 := B2.trans (b3.mono z2)
      have z3 := B3.size
      have hn3 : n3 ≤ 140737488351232 := by have := SlS.len s3; omega
      have C2 := Lib.hid (refAdd_any A 1024 c L dx dy w3 S3 (by omega) hc)
      clear b3 C1 d0 d1 hsl D2 B2
      have d0 := D3.c0
      have d1 := D3.c1
      have HD3 := Lib.hid D3
      clear D3
      go_wp2_with fail
      refine C2.out.mono ?_
      rintro e w4 ⟨A4, n4, c4, rfl, s4, hc4, -, b4⟩
      have S4 := Sl.below S3 b4
      have s3 := Sl.below s3 b4
      have B4 := B3.trans (b4.mono z3)
      have z4 := B4.size
      have C3 := spanAdd_any A 1024 c L 3 (1 + (j : Int) * st) w4 S4 (by omega) hc
      rw [HM.out.1, HM.out.2] at C3
      have C3 := Lib.hid C3
      clear b4 C2 d0 d1 S3 B3 HD3
      go_wp2_with fail
      refine C3.out.mono ?_
      rintro e w5 ⟨A5, n5, c5, rfl, s5, hc5, -, b5⟩
      have S5 := Sl.below S4 b5
      have s3 := Sl.below s3 b5
      have s4 := Sl.below s4 b5
      have B5 := B4.trans (b5.mono z4)
      have z5 := B5.size
      have hn5 : n5 ≤ 140737488351232 := by have := SlS.len s5; have := SlS.len S5; omega
      have C4 := spanRight_any A 1024 c L w5 S5 (by omega)
      rw [HR.out] at C4
      have C4 := Lib.hid C4
      clear b5 C3 S4 B4 hj p0 p1
      go_wp2_with fail
      refine C4.out.mono ?_
      rintro e w6 ⟨rfl, b6⟩
      have S6 := Sl.below S5 b6
      have s3 := Sl.below s3 b6
      have s4 := Sl.below s4 b6
      have s5 := Sl.below s5 b6
      have B6 := B5.trans (b6.mono z5)
      clear b6 C4 S5 B5
      go_wp2_with fail
      refine (sameS_any A3 A4 n3 n4 c3 c4 _ _ w6 s3 s4 hn3).mono ?_
      rintro e w7 ⟨rfl, d, rfl⟩
      go_wp2_with fail
      refine (sameS_any A5 A n5 1024 c5 c _ _ _ (Sl.drewN s5 d) (Sl.drewN S6 d) hn5).mono ?_
      rintro e w8 ⟨rfl, d', rfl⟩
      go_wp2
      go_ret
      exact ⟨by simp, below_drewN B6 _⟩
end Go.Proofs.Ytdndjegpkbdbeaa
