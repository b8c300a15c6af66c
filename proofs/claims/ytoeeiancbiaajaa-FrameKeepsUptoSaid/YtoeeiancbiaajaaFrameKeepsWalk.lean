/-
  The walk of firthlaw02.FrameKeeps.
-/
import Derived.Test.YtoeeiancbiaajaaFrameNext
namespace Go.Proofs.Ytoeeiancbiaajaa
open Go.RowKit
set_option linter.unusedVariables false

/-- What lies in other blocks than the one row that may have been written reads as it did. -/
theorem Sl.grown {w w' : World} {A : Option Addr} {n sz : Nat} {xs : List Value} {row : Option Nat} (h : Sl w A n sz xs) (hg : w.grownBy w' row) (hr : ∀ b off, A = some ⟨b, off, none⟩ → 0 < n * sz → some b ≠ row) : Sl w' A n sz xs :=
  ⟨h.1, fun hn => by
    obtain ⟨b, off, e, hc⟩ := h.2 hn
    exact ⟨b, off, e, fun j u hu => hg.cell (hc j u hu) (hr b off e hn)⟩⟩
theorem Sl.blk {w : World} {A : Option Addr} {n sz : Nat} {xs : List Value} (h : Sl w A n sz xs) (hn : 0 < n * sz) {b off : Nat} (e : A = some ⟨b, off, none⟩) : b < w.heap.size := by
  obtain ⟨b', off', e', hc⟩ := h.2 hn
  rw [e] at e'
  injection e' with e'
  injection e' with e1 e2
  subst e1 e2
  have h0 : 0 < xs.length := by rw [h.1]; exact hn
  exact World.block_lt_of_cell? w _ (hc 0 _ (List.getElem?_eq_getElem h0))
/-- A slice that lay there before the row's base stays. -/
theorem Sl.grown_lt {w0 w w' : World} {A : Option Addr} {n sz : Nat} {xs : List Value} {row : Option Nat} {B : Nat} (h0 : Sl w0 A n sz xs) (hB : w0.heap.size ≤ B) (h : Sl w A n sz xs) (hg : w.grownBy w' row) (hr : ∀ k, row = some k → B ≤ k) : Sl w' A n sz xs :=
  h.grown hg fun b off e hn er => by
    have := h0.blk hn e
    have := hr b er.symm
    omega
theorem inc_byte (c : Nat) (hc : c < 256) : ∃ y : UInt8, Value.int .u8 (IntKind.u8.wrap ((c : Int) + 1)) = bV y := by
  refine ⟨UInt8.ofNat ((c + 1) % 256), ?_⟩
  unfold bV
  rw [UInt8.toNat_ofNat', Nat.mod_mod_of_dvd _ (by decide)]
  congr 1
theorem bsV_set (l : List UInt8) (k : Nat) (y : UInt8) : (bsV l).set k (bV y) = bsV (l.set k y) := by unfold bsV; rw [List.map_set]


set_option maxHeartbeats 2000000 in
set_option maxRecDepth 100000 in
theorem frameKeeps_walk (a0 : Option Addr) (len0 cap0 : Nat) (l0 : List UInt8) (a1 : Option Addr) (len1 cap1 : Nat) (l1 : List UInt8) (w : World)
    (s0 : SlB w a0 len0 l0) (b0 : len0 ≤ cap0) (z0 : cap0 * 1 ≤ 140737488351232) (s1 : SlB w a1 len1 l1) (b1 : len1 ≤ cap1) (z1 : cap1 * 1 ≤ 140737488351232) (hsum : cap0 + cap1 ≤ 1048576) :
    Calls Try.prog 7 #[.slice a0 len0 cap0, .slice a1 len1 cap1] w fun e w' => e = .returned (.bool true) ∧ Below w.heap.size w w' := by
  obtain ⟨i0, hi, hz0, hz1, hz2⟩ := info_parts Try.infoU8
  have e0 := s0.len
  have e1 := s1.len
  have hlen : len0 ≤ 1048576 := by omega
  go_enter Try.func7, Try.ntmps7
  go_wp2_with (at_builtin; refine wpList_append_sl _ rfl (.tmp 19) (.tmp 20) 22 rfl (w.heap.size) 5 i0 (.int .u8 0) 1 1 Try.underlying22 hi hz0 hz1 hz2 rfl (by decide) (.slice none 0 0) (0) ([]) rfl (World.ownsRow_nil _ _ _ _) (a0) (len0) (cap0) (bsV l0) rfl (s0) (bsV_one _) (by unfold maxLen; omega) (by omega) (Nat.le_refl _) ?_)
  intro v1 w1 own1 g1 _
  have B1 : Below w.heap.size w w1 := below_grow (Below.refl _ _) (World.ownsRow_nil _ w.heap.size 5 1) g1 (Nat.le_refl _) (Nat.le_refl _)
  have y1 := B1.size
  clear g1
  go_wp2_with (at_builtin; refine wpList_append_sl _ rfl (.tmp 22) (.tmp 23) 22 rfl (w.heap.size) 5 i0 (.int .u8 0) 1 1 Try.underlying22 hi hz0 hz1 hz2 rfl (by decide) (v1) (len0) (bsV l0) rfl (own1) (a1) (len1) (cap1) (bsV l1) rfl (Sl.below s1 B1) (bsV_one _) (by unfold maxLen; omega) (by omega) (y1) ?_)
  intro v2 w2 own2 g2 _
  have B2 : Below w.heap.size w w2 := below_grow B1 own1 g2 y1 (Nat.le_refl _)
  have y2 := B2.size
  clear g2 own1 B1 y1
  obtain ⟨Ar, cr, rfl, hcr, hmr⟩ := own_slice own2
  have SR : SlB w2 Ar (len0 + len1) (l0 ++ l1) := by
    have := Sl.of_own own2
    unfold SlB
    rw [bsV_append]
    exact this
  have SM : SlB w2 Ar len0 l0 := by
    have := Sl.take SR (k := len0) (by omega)
    rw [Nat.mul_one, bsV_take, List.take_left' e0] at this
    exact this
  clear own2
  have hF := Lib.hid (nextF_put (b := l0) (by omega) (putF l0) [] 0 (by simp) (Nat.zero_le _))
  have hFl := putF_len l0
  obtain ⟨pl1, pl2⟩ := putNum_len (l0.length : Int)
  go_wp2_with fail
  refine (framePut_any Ar len0 cr l0 w2 SM hlen (by omega)).mono ?_
  rintro e w3 ⟨A1, n1, c1, rfl, sx, mx, ox, bx⟩
  have y3 := bx.size
  have SR3 := Sl.below SR bx
  have SM3 := Sl.below SM bx
  have B3 := B2.trans (bx.mono y2)
  clear B2 bx
  go_wp2_with fail
  refine (framePut_any Ar len0 cr l0 w3 SM3 hlen (by omega)).mono ?_
  rintro e w4 ⟨A2, n2, c2, rfl, sy, my, oy, bY⟩
  have y4 := bY.size
  have SR4 := Sl.below SR3 bY
  have SM4 := Sl.below SM3 bY
  have sx4 := Sl.below sx bY
  have HX := Lib.hid ox.lt
  have ox := own_below ox bY
  have B4 := B3.trans (bY.mono (Nat.le_trans y2 y3))
  have hn1 := sx.len
  clear B3 bY SR3 SM3 sx
  go_wp2_with fail
  refine (frameNext_any A1 n1 c1 0 (putF l0) w4 sx4 mx (by omega) (Nat.zero_le _)).mono ?_
  rw [hF.out]
  rintro e w5 ⟨A3, n3, c3, rfl, si, mi, oi, bI⟩
  have y5 := bI.size
  have SR5 := Sl.below SR4 bI
  have SM5 := Sl.below SM4 bI
  have sy4 := sy
  have sy5 := Sl.below sy bI
  have HI := Lib.hid oi.lt
  have HY := Lib.hid oy.lt
  have ox := own_below ox bI
  have B5 := B4.trans (bI.mono (Nat.le_trans y2 (Nat.le_trans y3 y4)))
  have hn3 := si.len
  have S05 := Sl.below s0 B5
  have S15 := Sl.below s1 B5
  have z5 := B5.size
  clear B4 bI SR4 SM4 sx4 sy si oy
  go_wp2_with fail
  go_loopw [14] (fun i uu => ∃ (k : Nat) (xs : List UInt8), i = .int .i64 (k : Int) ∧ k ≤ n3 ∧ uu.ownsRow (w4.heap.size) 5 1 (.slice A3 n3 c3) n3 (bsV xs) ∧ (w5).grownBy uu (Value.slice A3 n3 c3).ownBlock) (fun i _ => n3 - (intOf i).toNat)
  case atStart => exact ⟨0, _, rfl, Nat.zero_le _, oi, World.grownBy.refl _ _⟩
  case round =>
    obtain ⟨k, xs, rfl, hk, hown, hg⟩ := hrel
    by_cases hlt : k < n3
    · obtain ⟨g, cap, hv, _, _⟩ := hown.form (by omega)
      injection hv with hv1 hv2 hv3
      have hxl : xs.length = n3 := by have := hown.1; rw [bsV_length] at this; omega
      have hv1' := hv1
      rw [hv1, hv3] at hown hg
      obtain ⟨x, hx, hcell0⟩ : ∃ x : UInt8, xs[k]? = some x ∧ wr.cell? ⟨g, k, none⟩ = some (bV x) := by
        refine ⟨xs[k], List.getElem?_eq_getElem (by omega), ?_⟩
        rw [hown.cellAt k (by omega)]
        simp [bsV, List.getElem?_eq_getElem (show k < xs.length by omega)]
      obtain ⟨cc, hcc, hcx⟩ : ∃ cc : Nat, cc < 256 ∧ bV x = .int .u8 (cc : Int) := ⟨x.toNat, UInt8.toNat_lt x, rfl⟩
      rw [hcx] at hcell0
      obtain ⟨y, hy⟩ := inc_byte cc hcc
      have hfr := hown.frozenAt k
      obtain ⟨R1, R2⟩ := hown.stored k (.int .u8 (IntKind.u8.wrap ((cc : Int) + 1)))
      rw [hy, bsV_set] at R1
      rw [← hy] at R1
      have R2 := World.grownBy.trans hg R2
      have HR := Lib.hid (And.intro R1 R2)
      have HV := Lib.hid (And.intro hv1 hv3)
      clear R1 R2 hown hg hxl hx hcx hy hv1'
      subst hv1 hv3
      go_wp2
      go_roundw
      case rel => exact ⟨k + 1, _, by go_num, by omega, HR.out.1, HR.out.2⟩
      case measure => simp [intOf]; omega
    · have ox' := World.ownsRow.kept ox hg (by
        rcases hb : (Value.slice A1 n1 c1).ownBlock with _ | q
        · exact Or.inl rfl
        · refine Or.inr fun h => ?_
          have h1 := (HX.out q hb).2
          have h2 := (HI.out q h.symm).1
          omega)
      have T0 := Sl.grown_lt s0 (by omega) S05 hg (fun q hq => (HI.out q hq).1)
      have T1 := Sl.grown_lt s1 (by omega) S15 hg (fun q hq => (HI.out q hq).1)
      have TR := Sl.grown_lt SR (by omega) SR5 hg (fun q hq => (HI.out q hq).1)
      have Ty := Sl.grown_lt sy4 (by omega) sy5 hg (fun q hq => (HI.out q hq).1)
      have B6 := B5.grown hg (by omega) (fun q hq => (by have := (HI.out q hq).1; omega))
      have y6 := B6.size
      have yw : w5.heap.size ≤ wr.heap.size := hg.size
      clear hown hg oi ox SR5 SM5 sy5 S05 S15 B5
      go_wp2_with fail
      go_loopw [15] (fun i uu => ∃ (k : Nat) (xs : List UInt8), i = .int .i64 (k : Int) ∧ k ≤ n1 ∧ uu.ownsRow (w2.heap.size) 5 1 (.slice A1 n1 c1) n1 (bsV xs) ∧ (wr).grownBy uu (Value.slice A1 n1 c1).ownBlock) (fun i _ => n1 - (intOf i).toNat)
      case atStart => exact ⟨0, _, rfl, Nat.zero_le _, ox', World.grownBy.refl _ _⟩
      case round =>
        obtain ⟨k, xs, rfl, hk, hown, hg⟩ := hrel
        by_cases hlt : k < n1
        · obtain ⟨g, cap, hv, _, _⟩ := hown.form (by omega)
          injection hv with hv1 hv2 hv3
          have hxl : xs.length = n1 := by have := hown.1; rw [bsV_length] at this; omega
          have hv1' := hv1
          rw [hv1, hv3] at hown hg
          obtain ⟨x, hx, hcell0⟩ : ∃ x : UInt8, xs[k]? = some x ∧ wr.cell? ⟨g, k, none⟩ = some (bV x) := by
            refine ⟨xs[k], List.getElem?_eq_getElem (by omega), ?_⟩
            rw [hown.cellAt k (by omega)]
            simp [bsV, List.getElem?_eq_getElem (show k < xs.length by omega)]
          obtain ⟨cc, hcc, hcx⟩ : ∃ cc : Nat, cc < 256 ∧ bV x = .int .u8 (cc : Int) := ⟨x.toNat, UInt8.toNat_lt x, rfl⟩
          rw [hcx] at hcell0
          obtain ⟨y, hy⟩ := inc_byte cc hcc
          have hfr := hown.frozenAt k
          obtain ⟨R1, R2⟩ := hown.stored k (.int .u8 (IntKind.u8.wrap ((cc : Int) + 1)))
          rw [hy, bsV_set] at R1
          rw [← hy] at R1
          have R2 := World.grownBy.trans hg R2
          have HR := Lib.hid (And.intro R1 R2)
          have HV := Lib.hid (And.intro hv1 hv3)
          clear R1 R2 hown hg hxl hx hcx hy hv1'
          subst hv1 hv3
          go_wp2
          go_roundw
          case rel => exact ⟨k + 1, _, by go_num, by omega, HR.out.1, HR.out.2⟩
          case measure => simp [intOf]; omega
        · have T0 := Sl.grown_lt s0 y2 T0 hg (fun q hq => (HX.out q hq).1)
          have T1 := Sl.grown_lt s1 y2 T1 hg (fun q hq => (HX.out q hq).1)
          have TR := Sl.grown_lt SR (Nat.le_refl _) TR hg (fun q hq => (HX.out q hq).1)
          have Ty := Sl.grown Ty hg (fun b off e _ h => by
            have h1 := (HY.out b (by rw [e]; rfl)).1
            have h2 := (HX.out b h.symm).2
            omega)
          have B7 := B6.grown hg y6 (fun q hq => (by have := (HX.out q hq).1; omega))
          have y7 := B7.size
          clear hown hg B6
          have TM : SlB wr Ar len0 l0 := by
            have := Sl.take TR (k := len0) (by omega)
            rw [Nat.mul_one, bsV_take, List.take_left' e0] at this
            exact this
          go_wp2_with fail
          refine (refPutF_any a0 len0 cap0 l0 _ T0 hlen).mono ?_
          intro e w8 h8
          obtain ⟨A4, n4, c4, rfl, s4, m4, -, b8, -⟩ := h8.read
          clear h8
          have Ty := Sl.below Ty b8
          have TM := Sl.below TM b8
          have TR := Sl.below TR b8
          have T0 := Sl.below T0 b8
          have T1 := Sl.below T1 b8
          have B8 := B7.trans (b8.mono y7)
          clear B7 b8
          go_wp2_with fail
          refine (sameF_any A2 A4 n2 n4 c2 c4 _ _ w8 Ty s4).mono ?_
          rintro e w9 ⟨rfl, rfl⟩
          go_wp2_with fail
          refine (sameF_any Ar a0 len0 len0 cr cap0 _ _ w8 TM T0).mono ?_
          rintro e w10 ⟨rfl, rfl⟩
          have TC := Sl.cut TR (k := len0) (by omega) hcr
          rw [Nat.mul_one, bsV_drop, List.drop_left' e0, show len0 + len1 - len0 = len1 by omega] at TC
          go_wp2_with fail
          all_goals
            refine (sameF_any _ a1 len1 len1 _ cap1 l1 l1 w8 (by
              first
                | (rw [if_pos (by assumption)] at TC; exact TC)
                | (rw [if_neg (by assumption)] at TC; exact TC)) T1).mono ?_
            rintro e w11 ⟨rfl, rfl⟩
            go_wp2
            go_ret
            exact ⟨by simp, B8⟩
end Go.Proofs.Ytoeeiancbiaajaa
