/-
  The walk of firthlaw03.SpanKeeps.
-/
import Derived.Test.YtdndjegpkbdbeaaSpanJoinsWalk
namespace Go.Proofs.Ytdndjegpkbdbeaa
open Go.RowKit
set_option linter.unusedVariables false

/-- What lies in other blocks than the one row that may have been written reads as it did. -/
theorem Sl.grown {w w' : World} {A : Option Addr} {n sz : Nat} {xs : List Value} {row : Option Nat} (h : Sl w A n sz xs) (hg : w.grownBy w' row) (hr : ∀ b off, A = some ⟨b, off, none⟩ → some b ≠ row) : Sl w' A n sz xs :=
  ⟨h.1, fun hn => by
    obtain ⟨b, off, e, hc⟩ := h.2 hn
    exact ⟨b, off, e, fun j u hu => hg.cell (hc j u hu) (hr b off e)⟩⟩
theorem Sl.blk {w : World} {A : Option Addr} {n sz : Nat} {xs : List Value} (h : Sl w A n sz xs) (hn : 0 < n * sz) {b off : Nat} (e : A = some ⟨b, off, none⟩) : b < w.heap.size := by
  obtain ⟨b', off', e', hc⟩ := h.2 hn
  rw [e] at e'
  injection e' with e'
  injection e' with e1 e2
  subst e1 e2
  have h0 : 0 < xs.length := by rw [h.1]; exact hn
  exact World.block_lt_of_cell? w _ (hc 0 _ (List.getElem?_eq_getElem h0))
/-- A slice that lay there before the row's base stays. -/
theorem Sl.grown_lt {w0 w w' : World} {A : Option Addr} {n sz : Nat} {xs : List Value} {row : Option Nat} {B : Nat} (h0 : Sl w0 A n sz xs) (hB : w0.heap.size ≤ B) (h : Sl w A n sz xs) (hg : w.grownBy w' row) (hr : ∀ k, row = some k → B ≤ k) : Sl w' A n sz xs := by
  rcases Nat.eq_zero_or_pos (n * sz) with h1 | h1
  · exact ⟨h.1, fun hn => absurd hn (by omega)⟩
  · exact h.grown hg fun b off e er => by
      have := h0.blk h1 e
      have := hr b er.symm
      omega

set_option maxHeartbeats 1000000 in
set_option maxRecDepth 100000 in
theorem spanKeeps_walk (a0 : Option Addr) (len0 cap0 : Nat) (l0 : List Sp) (a1 : Option Addr) (len1 cap1 : Nat) (l1 : List Sp) (w : World)
    (s0 : SlS w a0 len0 l0) (f0 : ∀ x ∈ l0, wfSp x) (b0 : len0 ≤ cap0) (z0 : cap0 * 24 ≤ 140737488351232) (s1 : SlS w a1 len1 l1) (f1 : ∀ x ∈ l1, wfSp x) (b1 : len1 ≤ cap1) (z1 : cap1 * 24 ≤ 140737488351232) :
    Calls Try.prog 6 #[.slice a0 len0 cap0, .slice a1 len1 cap1] w fun e w' => e = .returned (.bool true) ∧ Below w.heap.size w w' := by
  obtain ⟨i0, hi, hz0, hz1, hz2⟩ := info_parts Try.infoSpan
  have hn0 : len0 ≤ 140737488351232 := by omega
  have hn1 : len1 ≤ 140737488351232 := by omega
  have hl := joinSL_len l0 l1
  have hl0 := s0.len
  clear f0 f1
  go_enter Try.func6, Try.ntmps6
  go_wp2_with fail
  refine (awakeS_any w).mono ?_
  rintro e w1 ⟨rfl, B1⟩
  have y1 := B1.size
  have S0 := Sl.below s0 B1
  have S1 := Sl.below s1 B1
  go_wp2_with (at_builtin; refine wpList_append_sl _ rfl (.tmp 15) (.tmp 16) 22 rfl (w1.heap.size) 37 i0 (.agg #[.int .i64 0, .int .i64 0, .int .i64 0]) 3 24 Try.underlying22 hi hz0 hz1 hz2 rfl (by decide) (.slice none 0 0) (0) ([]) rfl (World.ownsRow_nil _ _ _ _) (a0) (len0) (cap0) (spV l0) rfl (S0) (spV_one _) (by unfold maxLen; omega) (by omega) (Nat.le_refl _) ?_)
  intro vx w2 ownx g2 _
  have B2 : Below w1.heap.size w1 w2 := below_grow (Below.refl _ _) (World.ownsRow_nil _ w1.heap.size 37 3) g2 (Nat.le_refl _) (Nat.le_refl _)
  have S0 := Sl.below S0 B2
  have S1 := Sl.below S1 B2
  have B2 := B1.trans (B2.mono y1)
  have y2 := B2.size
  obtain ⟨Ax, cx, rfl, hcx, hmx⟩ := own_slice ownx
  have Sx : SlS w2 Ax len0 l0 := Sl.of_own (by simpa using ownx)
  clear g2 B1 ownx
  go_wp2_with fail
  refine (spanJoin_any Ax a1 len0 len1 cx cap1 l0 l1 w2 Sx S1 hn0 hn1 hcx b1).mono ?_
  rintro e w3 ⟨Au, nu, cu, rfl, su, hcu, ownu, B3⟩
  have y3 := B3.size
  have Sx3 := Sl.below Sx B3
  have S1 := Sl.below S1 B3
  have S0 := Sl.below S0 B3
  have B3' := B2.trans (B3.mono y2)
  have y3' := B3'.size
  go_wp2_with fail
  refine (spanJoin_any Ax a1 len0 len1 cx cap1 l0 l1 w3 Sx3 S1 hn0 hn1 hcx b1).mono ?_
  rintro e w4 ⟨Av, nv, cv, rfl, sv, hcv, ownv, B4⟩
  have y4 := B4.size
  have Sx4 := Sl.below Sx3 B4
  have S1 := Sl.below S1 B4
  have S0 := Sl.below S0 B4
  have HU := Lib.hid ownu.lt
  have ownu := own_below ownu B4
  have B4' := B3'.trans (B4.mono y3')
  have y4' := B4'.size
  have hnu : nu ≤ 140737488351232 := by have := SlS.len su; omega
  have hnv : nv ≤ 140737488351232 := by have := SlS.len sv; omega
  clear B3 B3' B4 su B2
  have hux : w2.heap.size ≤ w4.heap.size := Nat.le_trans y3 y4
  go_wp2
  go_loopw [10] (fun i wr => ∃ (k : Nat) (xs : List Value), i = .int .i64 (k : Int) ∧ k ≤ nu ∧ wr.ownsRow w2.heap.size 37 3 (.slice Au nu cu) nu xs ∧ w4.grownBy wr (Value.slice Au nu cu).ownBlock) (fun i _ => nu - (intOf i).toNat)
  case atStart => exact ⟨0, _, rfl, Nat.zero_le _, ownu, World.grownBy.refl _ _⟩
  case round =>
    obtain ⟨k, xs, rfl, hk, hown, hg⟩ := hrel
    by_cases hlt : k < nu
    · obtain ⟨g, cap, hv, _, _⟩ := hown.form (by omega)
      injection hv with hv1 hv2 hv3
      subst hv1 hv3
      have hxl : xs.length = nu * 3 := hown.1
      obtain ⟨old, hcell⟩ : ∃ old, wr.cell? ⟨g, k * 3 + 2, none⟩ = some old := ⟨_, by rw [hown.cellAt (k * 3 + 2) (by omega)]; exact List.getElem?_eq_getElem (by omega)⟩
      have hfr := hown.frozenAt (k * 3 + 2)
      obtain ⟨R1, R2⟩ := hown.stored (k * 3 + 2) (.int .i64 (-9))
      have R2 := World.grownBy.trans hg R2
      have HR := Lib.hid (And.intro R1 R2)
      have Hxl := Lib.hid hxl
      clear R1 R2 hown hg ownu hxl
      go_wp2
      go_roundw
      case rel => exact ⟨k + 1, _, by go_num, by omega, HR.out.1, HR.out.2⟩
      case measure => simp [intOf]; omega
    · have T0 := Sl.grown_lt s0 (Nat.le_refl _) S0 hg (fun q hq => Nat.le_trans y2 (HU.out q hq).1)
      have T1 := Sl.grown_lt s1 (Nat.le_refl _) S1 hg (fun q hq => Nat.le_trans y2 (HU.out q hq).1)
      have Tx := Sl.grown_lt Sx (Nat.le_refl _) Sx4 hg (fun q hq => (HU.out q hq).1)
      have Tv := Sl.grown sv hg (fun b off e h => by
        have h1 := (ownv.lt b (by rw [e]; rfl)).1
        have h2 := (HU.out b h.symm).2
        omega)
      have BF := B4'.grown hg y4' (fun q hq => Nat.le_trans y2 (HU.out q hq).1)
      have yF := BF.size
      clear hg hown ownu ownv sv Sx4 Sx3 S0 S1
      go_wp2_with fail
      refine (refJoinS_any a0 a1 len0 len1 cap0 cap1 l0 l1 wr T0 T1 hn0 hn1).mono ?_
      rintro e w5 ⟨Aw, nw, cw, rfl, sw, hcw, -, B5⟩
      have Tv := Sl.below Tv B5
      have Tx := Sl.below Tx B5
      have T0 := Sl.below T0 B5
      have BF := BF.trans (B5.mono yF)
      go_wp2_with fail
      refine (sameS_any Av Aw nv nw cv cw _ _ w5 Tv sw hnv).mono ?_
      rintro e w6 ⟨rfl, d, rfl⟩
      go_wp2_with fail
      refine (sameS_any Ax a0 len0 len0 cx cap0 _ _ _ (Sl.drewN Tx d) (Sl.drewN T0 d) hn0).mono ?_
      rintro e w7 ⟨rfl, d', rfl⟩
      go_wp2
      go_ret
      exact ⟨by simp, below_drewN BF _⟩
end Go.Proofs.Ytdndjegpkbdbeaa
