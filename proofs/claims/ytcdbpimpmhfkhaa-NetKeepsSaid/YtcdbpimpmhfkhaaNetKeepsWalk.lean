/-
  The walk of firthlaw08.NetKeeps.
-/
import Derived.Test.YtcdbpimpmhfkhaaNetCopiesWalk
import Derived.Test.YtcdbpimpmhfkhaaIncLoop
namespace Go.Proofs.Ytcdbpimpmhfkhaa
open Go.RowKit
set_option linter.unusedVariables false

section
variable {K K2 : Nat → Prop} {w0 w w1 w' : World} {p m : Nat} {l : List Pk} {C : K4 → Bool} {c : Cnt}
/-- A row that is none of the network's has been written. -/
theorem NetP.grown (h : NetP K2 w1 w p l C c m) {row : Option Nat} (hg : w.grownBy w' row) (hr : ∀ g, row = some g → K2 g ∧ ¬ K g) (hK : ∀ b, K b → K2 b) : NetP K w1 w' p l C c m := by
  obtain ⟨G, fp, hG, h1, h2, h3, h4⟩ := h
  refine ⟨G, fp, hG, h1.kept (Kept.grown hg fun g hg' hf => h2 g hf (hr g hg').1) hg.size, fun b hb hk => h2 b hb (hK b hk), ?_, fun b hk => h4 b (hK b hk)⟩
  exact (h3.mono fun i hi => .inl fun hk => hi (hK i hk)).trans (Fr.of_grown hg) fun i hi => .inl (hr i hi.symm).2
end
/-- A row of bytes beside a block that is none. -/
theorem row_ne {w : World} {base n sz : Nat} {v : Value} {xs : List Value} {bx : Nat} {cs : Array Value} (h : w.ownsRow base 5 sz v n xs) (hb : w.heap[bx]? = some (.cells cs 32 (0, 0))) : ∀ g, v.ownBlock = some g → g ≠ bx := fun g hg => by
  obtain ⟨cs', hcs⟩ := own_tag h hg
  exact tag_ne hcs hb (by decide)
set_option maxHeartbeats 2000000 in
set_option maxRecDepth 100000 in
theorem netKeeps_walk (cs : List Value) (xp : pkSh.T) (w : World) (r0 : Rd w pkSh cs xp) :
    Calls Try.prog 4 #[.agg cs.toArray] w fun e w' => e = .returned (.bool true) ∧ Below w.heap.size w w' := by
  obtain ⟨i0, hi, hz0, hz1, hz2⟩ := info_parts Try.infoByte
  obtain ⟨p, A, n, kA, rfl, hs, hc, hn, hwf⟩ := pk_open r0
  show Calls _ _ #[.agg #[.int .i64 p.fs, .int .i64 p.fn, .int .i64 p.ts, .int .i64 p.tn, .slice A n kA]] _ _
  clear r0
  have kb : (w.alloc (.cells #[.int .i64 p.fs, .int .i64 p.fn, .int .i64 p.ts, .int .i64 p.tn, .slice A n kA] 32)).heap[w.heap.size]? = some (.cells #[.int .i64 p.fs, .int .i64 p.fn, .int .i64 p.ts, .int .i64 p.tn, .slice A n kA] 32 (0, 0)) := heap_alloc_new _ _
  have HA := Lib.hid (And.intro kb (And.intro (Sl.alloc hs (.cells #[.int .i64 p.fs, .int .i64 p.fn, .int .i64 p.ts, .int .i64 p.tn, .slice A n kA] 32)) ((Below.refl _ w).alloc (Nat.le_refl _) (.cells #[.int .i64 p.fs, .int .i64 p.fn, .int .i64 p.ts, .int .i64 p.tn, .slice A n kA] 32))))
  have hn9 : n ≤ 140737488351232 := by rw [tokMax_eq] at hn; exact hn
  clear kb hs
  go_enter Try.func4, Try.ntmps4
  go_wp2_with fail
  refine (awake_any _).mono ?_
  rintro e w1 ⟨rfl, B1⟩
  obtain ⟨kb, hs, B0⟩ := HA.out
  have kb1 := (B1.block w.heap.size (by simp)).trans kb
  have hzw : w.heap.size < w1.heap.size := heap_lt kb1
  have hs1 : SlB w1 A n p.d := Sl.below hs B1
  have B01 := B0.trans (B1.mono (by simp))
  have x0 := blk_cell (j := 0) kb1 rfl
  have x1 := blk_cell (j := 1) kb1 rfl
  have x2 := blk_cell (j := 2) kb1 rfl
  have x3 := blk_cell (j := 3) kb1 rfl
  have x4 := blk_cell (j := 4) kb1 rfl
  have HX := Lib.hid (And.intro kb1 (And.intro hs1 B01))
  clear kb hs B0 B1 kb1 B01 HA
  go_wp2_with (at_builtin; refine wpList_append_sl _ rfl (.tmp 17) (.tmp 19) 30 rfl (w1.heap.size + 1) 5 i0 (.int .u8 0) 1 1 Try.underlying30 hi hz0 hz1 hz2 rfl (by decide) (.slice (some ⟨w1.heap.size + 1, 0, none⟩) 0 0) (0) ([]) rfl (ownEmpty (w1.alloc (.cells #[.int .i64 p.fs, .int .i64 p.fn, .int .i64 p.ts, .int .i64 p.tn, .slice A n kA] 32)) 5 (w1.heap.size + 1) (w1.heap.size + 1) 1 (by simp) (Nat.le_refl _)) (A) (n) (kA) (bsV p.d) rfl (Sl.alloc (Sl.alloc hs1 _) _) (bsV_one _) (by unfold maxLen; omega) (by omega) (by simp) ?_)
  intro v2 w2 own2 g2 hv2
  obtain ⟨A2, k2, rfl, hc2, -⟩ := own_slice own2
  have kq0 : (w1.alloc (.cells #[.int .i64 p.fs, .int .i64 p.fn, .int .i64 p.ts, .int .i64 p.tn, .slice A n kA] 32)).heap[w1.heap.size]? = some (.cells #[.int .i64 p.fs, .int .i64 p.fn, .int .i64 p.ts, .int .i64 p.tn, .slice A n kA] 32 (0, 0)) := heap_alloc_new _ _
  have B2 : Below (w1.heap.size + 1) (w1.alloc (.cells #[.int .i64 p.fs, .int .i64 p.fn, .int .i64 p.ts, .int .i64 p.tn, .slice A n kA] 32)) w2 := ((Below.refl _ _).alloc (by simp) _).grown g2 (by simp) (fun q hq => by simp [Value.ownBlock] at hq; omega)
  have kq := (B2.block w1.heap.size (by omega)).trans kq0
  have fq := blk_free kq 4
  have xq := blk_cell (j := 4) kq rfl
  have hkq := heap_setCell_same w2 w1.heap.size 4 _ _ (.slice A2 n k2) kq
  have own3 : (w2.setCell ⟨w1.heap.size, 4, none⟩ (.slice A2 n k2)).ownsRow (w1.heap.size + 1) 5 1 (.slice A2 n k2) n (bsV p.d) := by
    have := own_keep own2 (w' := w2.setCell ⟨w1.heap.size, 4, none⟩ (.slice A2 n k2)) (fp := fun b => b ≠ w1.heap.size) (fun g hg => by have := (own2.lt g hg).1; omega) (Kept.set _ (fun hh => hh rfl))
    simpa using this
  have B12 : Below w1.heap.size w1 (w2.setCell ⟨w1.heap.size, 4, none⟩ (.slice A2 n k2)) := (((Below.refl _ w1).alloc (Nat.le_refl _) _).trans (B2.mono (by omega))).setCell (Nat.le_refl _) _
  have hzq : w1.heap.size < (w2.setCell ⟨w1.heap.size, 4, none⟩ (.slice A2 n k2)).heap.size := heap_lt hkq
  have HQ := Lib.hid (And.intro hkq (And.intro own3 B12))
  clear own2 g2 hv2 kq0 B2 kq hkq own3 B12 hs1 x0 x1 x2 x3 x4
  go_wp2_with fail
  refine (newP _).mono ?_
  generalize hwq : w2.setCell ⟨w1.heap.size, 4, none⟩ (.slice A2 n k2) = wq at *
  clear hwq xq fq
  rintro e w3 ⟨q, rfl, H3⟩
  have kq3 := (H3.fr.block w1.heap.size hzq (by omega)).trans HQ.out.1
  have own3 := own_keep HQ.out.2.1 (fp := fun b => b < wq.heap.size) (fun g hg => (HQ.out.2.1.lt g hg).2) (H3.fr.kept fun b hb hh => hh hb)
  have x0 := blk_cell (j := 0) kq3 rfl
  have x1 := blk_cell (j := 1) kq3 rfl
  have x2 := blk_cell (j := 2) kq3 rfl
  have x3 := blk_cell (j := 3) kq3 rfl
  have x4 := blk_cell (j := 4) kq3 rfl
  have C3 := Lib.hid (show Calls Try.prog 11 #[.pointer (some ⟨q, 0, none⟩), .agg #[.int .i64 p.fs, .int .i64 p.fn, .int .i64 p.ts, .int .i64 p.tn, .slice A2 n k2]] w3 (fun e w' => e = .returned (.bool true) ∧ NetP (fun b => b < wq.heap.size) wq w' q [p] (fun _ => false) ⟨1, 0, 0⟩ 0) from
    sendP p A2 n k2 H3 (by decide) hwf (Sl.of_own own3) hc2 hn)
  clear H3 kq3 own3
  go_wp2_with fail
  refine C3.out.mono ?_
  rintro e w4 ⟨rfl, H4⟩
  have kq4 := (H4.fr.block w1.heap.size hzq (by omega)).trans HQ.out.1
  have own4 := own_keep HQ.out.2.1 (fp := fun b => b < wq.heap.size) (fun g hg => (HQ.out.2.1.lt g hg).2) (H4.fr.kept fun b hb hh => hh hb)
  have HH4 := Lib.hid H4
  have HO4 := Lib.hid (fun g hg => HQ.out.2.1.lt g hg)
  clear H4 C3 x0 x1 x2 x3 x4
  go_wp2_with fail
  have hne := row_ne own4 kq4
  have HBX := Lib.hid kq4
  go_loopw [5] (fun i uu => ∃ (k : Nat) (xs : List UInt8), i = .int .i64 (k : Int) ∧ k ≤ n ∧ uu.ownsRow (w1.heap.size + 1) 5 1 (.slice A2 n k2) n (bsV xs) ∧ (w4).grownBy uu (Value.slice A2 n k2).ownBlock) (fun i _ => n - (intOf i).toNat)
  case atStart => exact ⟨0, _, rfl, Nat.zero_le _, own4, World.grownBy.refl _ _⟩
  case round =>
    obtain ⟨k, xs, rfl, hk, hown, hg⟩ := hrel
    have xbx := blk_cell (j := 4) ((hg.block w1.heap.size (heap_lt HBX.out) (fun e => hne w1.heap.size e.symm rfl)).trans HBX.out) rfl
    by_cases hlt : k < n
    · obtain ⟨g, cap, hv, _, _⟩ := hown.form (by omega)
      injection hv with hv1 hv2 hv3
      have hxl : xs.length = n := by have := hown.1; rw [bsV_length] at this; omega
      have hv1' := hv1
      rw [hv1, hv3] at hown hg
      obtain ⟨x, hx, hcell0⟩ : ∃ x : UInt8, xs[k]? = some x ∧ wr.cell? ⟨g, k, none⟩ = some (bV x) := by
        refine ⟨xs[k], List.getElem?_eq_getElem (by omega), ?_⟩
        rw [hown.cellAt k (by omega)]
        simp [bsV, List.getElem?_eq_getElem (show k < xs.length by omega)]
      obtain ⟨cc, hcc, hcx⟩ : ∃ cc : Nat, cc < 256 ∧ bV x = .int .u8 (cc : Int) := ⟨x.toNat, UInt8.toNat_lt x, rfl⟩
      rw [hcx] at hcell0
      obtain ⟨y, hy⟩ := inc_byte cc hcc
      have hfr := hown.frozenAt k
      obtain ⟨R1, R2⟩ := hown.stored k (.int .u8 (IntKind.u8.wrap ((cc : Int) + 1)))
      rw [hy, bsV_set] at R1
      rw [← hy] at R1
      have R2 := World.grownBy.trans hg R2
      have HR := Lib.hid (And.intro R1 R2)
      have HV := Lib.hid (And.intro hv1 hv3)
      clear R1 R2 hown hg hxl hx hcx hy hv1' hne
      subst hv1 hv3
      go_wp2
      go_roundw
      case rel => exact ⟨k + 1, _, by go_num, by omega, HR.out.1, HR.out.2⟩
      case measure => simp [intOf]; omega
    · have H5 := HH4.out.grown (K := fun b => b < w1.heap.size) hg (fun g hg' => ⟨(HO4.out g hg').2, fun hh => by have := (HO4.out g hg').1; omega⟩) (fun b hb => Nat.lt_trans hb hzq)
      have C5 := Lib.hid (show Calls Try.prog 15 #[.pointer (some ⟨q, 0, none⟩), .int .i64 0] wr (NewPkB wr p true) from lookPP 0 H5)
      have F5 := (Fr.of_below HQ.out.2.2 (fp := fun b => ¬ b < w1.heap.size)).trans H5.fr (fun i hi => .inl hi)
      have HH5 := Lib.hid (And.intro H5 F5)
      clear hown hg H5 HH4 kq4 own4 hne HBX F5
      obtain ⟨w5, rfl⟩ : ∃ w5 : World, w5 = wr := ⟨_, rfl⟩
      go_wp2_with fail
      refine C5.out.mono ?_
      rintro e w6 ⟨A6, n6, k6, rfl, s6, hc6, hn6, o6, b6⟩
      have hz5 : w1.heap.size ≤ w5.heap.size := HH5.out.2.size
      have hz6 := b6.size
      have BB : Below w5.heap.size w5 (w6.alloc (.cells #[.int .i64 p.fs, .int .i64 p.fn, .int .i64 p.ts, .int .i64 p.tn, .slice A6 n6 k6] 32)) := b6.alloc b6.size _
      have H6 := HH5.out.1.over (K2 := fun b => b < w1.heap.size ∨ w5.heap.size ≤ b ∧ b < w6.heap.size + 1) BB (fun b hb => hb.imp id (fun e => by simpa using e))
      have k6b : (w6.alloc (.cells #[.int .i64 p.fs, .int .i64 p.fn, .int .i64 p.ts, .int .i64 p.tn, .slice A6 n6 k6] 32)).heap[w6.heap.size]? = some (.cells #[.int .i64 p.fs, .int .i64 p.fn, .int .i64 p.ts, .int .i64 p.tn, .slice A6 n6 k6] 32 (0, 0)) := heap_alloc_new _ _
      have own6 : (w6.alloc (.cells #[.int .i64 p.fs, .int .i64 p.fn, .int .i64 p.ts, .int .i64 p.tn, .slice A6 n6 k6] 32)).ownsRow w5.heap.size 5 1 (.slice A6 n6 k6) n6 (bsV p.d) := o6.alloc _
      have F6 := Lib.hid (HH5.out.2.trans (Fr.of_below BB (fp := fun _ => False)) (fun _ h => h.elim))
      have HO6 := Lib.hid (fun g hg => o6.lt g hg)
      have HH6 := Lib.hid H6
      clear o6 b6 H6 HH5 C5 BB s6
      have hn69 : n6 ≤ 140737488351232 := by rw [tokMax_eq] at hn6; exact hn6
      go_wp2_with fail
      generalize hwa : (w6.alloc (.cells #[.int .i64 p.fs, .int .i64 p.fn, .int .i64 p.ts, .int .i64 p.tn, .slice A6 n6 k6] 32)) = wa at *
      clear hwa
      have hne := row_ne own6 k6b
      have HBX := Lib.hid k6b
      go_loopw [8] (fun i uu => ∃ (k : Nat) (xs : List UInt8), i = .int .i64 (k : Int) ∧ k ≤ n6 ∧ uu.ownsRow (w5.heap.size) 5 1 (.slice A6 n6 k6) n6 (bsV xs) ∧ (wa).grownBy uu (Value.slice A6 n6 k6).ownBlock) (fun i _ => n6 - (intOf i).toNat)
      case atStart => exact ⟨0, _, rfl, Nat.zero_le _, own6, World.grownBy.refl _ _⟩
      case round =>
        obtain ⟨k, xs, rfl, hk, hown, hg⟩ := hrel
        have xbx := blk_cell (j := 4) ((hg.block w6.heap.size (heap_lt HBX.out) (fun e => hne w6.heap.size e.symm rfl)).trans HBX.out) rfl
        by_cases hlt : k < n6
        · obtain ⟨g, cap, hv, _, _⟩ := hown.form (by omega)
          injection hv with hv1 hv2 hv3
          have hxl : xs.length = n6 := by have := hown.1; rw [bsV_length] at this; omega
          have hv1' := hv1
          rw [hv1, hv3] at hown hg
          obtain ⟨x, hx, hcell0⟩ : ∃ x : UInt8, xs[k]? = some x ∧ wr.cell? ⟨g, k, none⟩ = some (bV x) := by
            refine ⟨xs[k], List.getElem?_eq_getElem (by omega), ?_⟩
            rw [hown.cellAt k (by omega)]
            simp [bsV, List.getElem?_eq_getElem (show k < xs.length by omega)]
          obtain ⟨cc, hcc, hcx⟩ : ∃ cc : Nat, cc < 256 ∧ bV x = .int .u8 (cc : Int) := ⟨x.toNat, UInt8.toNat_lt x, rfl⟩
          rw [hcx] at hcell0
          obtain ⟨y, hy⟩ := inc_byte cc hcc
          have hfr := hown.frozenAt k
          obtain ⟨R1, R2⟩ := hown.stored k (.int .u8 (IntKind.u8.wrap ((cc : Int) + 1)))
          rw [hy, bsV_set] at R1
          rw [← hy] at R1
          have R2 := World.grownBy.trans hg R2
          have HR := Lib.hid (And.intro R1 R2)
          have HV := Lib.hid (And.intro hv1 hv3)
          clear R1 R2 hown hg hxl hx hcx hy hv1' hne
          subst hv1 hv3
          go_wp2
          go_roundw
          case rel => exact ⟨k + 1, _, by go_num, by omega, HR.out.1, HR.out.2⟩
          case measure => simp [intOf]; omega
        · have H7 := HH6.out.grown (K := fun b => b < w1.heap.size) hg (fun g hg' => ⟨.inr (by have := HO6.out g hg'; omega), fun hh => by have := (HO6.out g hg').1; omega⟩) (fun b hb => .inl hb)
          have F7 := F6.out.trans H7.fr (fun i hi => .inl hi)
          have C7 := Lib.hid (show Calls Try.prog 16 #[.pointer (some ⟨q, 0, none⟩), .int .i64 0] wr (fun e w' => e = .returned (.bool true) ∧ NetP (fun b => b < w1.heap.size) wa w' q [p, p] (fun _ => false) ⟨1, 0, 0⟩ 0) from copyP 0 H7)
          clear hown hg H7 F7 HH6 k6b own6 hne HBX
          go_wp2_with fail
          refine C7.out.mono ?_
          rintro e w8 ⟨rfl, H8⟩
          have F8 := F6.out.trans H8.fr (fun i hi => .inl hi)
          have C8 := Lib.hid (show Calls Try.prog 12 #[.pointer (some ⟨q, 0, none⟩), .int .i64 1] w8 (fun e w' => ∃ A n k, e = .returned (.tuple #[.agg #[.int .i64 p.fs, .int .i64 p.fn, .int .i64 p.ts, .int .i64 p.tn, .slice A n k], .bool true]) ∧ SlB w' A n p.d ∧ n ≤ k ∧ n ≤ tokMax ∧ w'.ownsRow w8.heap.size 5 1 (.slice A n k) n (bsV p.d) ∧ NetP (fun b => b < w1.heap.size) wa w' q [p] (fun _ => false) ⟨1, 1, 0⟩ 0 ∧ NetP (fun b => b < w1.heap.size ∨ w8.heap.size ≤ b ∧ b < w'.heap.size) w' w' q [p] (fun _ => false) ⟨1, 1, 0⟩ 0) from takePP 1 H8 (by decide) (by decide))
          have hz8 : w1.heap.size ≤ w8.heap.size := F8.size
          have HF8 := Lib.hid F8
          clear H8 F8 C7
          go_wp2_with fail
          refine C8.out.mono ?_
          rintro e w9 ⟨A9, n9, k9, rfl, s9, hc9, hn9', o9, H9, H9'⟩
          have hn99 : n9 ≤ 140737488351232 := by rw [tokMax_eq] at hn9'; exact hn9'
          have hz9 : w8.heap.size ≤ w9.heap.size ∨ w9.heap.size < w8.heap.size := by omega
          have BB : Below w9.heap.size w9 (w9.alloc (.cells #[.int .i64 p.fs, .int .i64 p.fn, .int .i64 p.ts, .int .i64 p.tn, .slice A9 n9 k9] 32)) := (Below.refl _ _).alloc (Nat.le_refl _) _
          have H10 := H9'.over (K2 := fun b => b < w1.heap.size ∨ w8.heap.size ≤ b ∧ b < w9.heap.size + 1) BB (fun b hb => hb.elim (fun h => .inl (.inl h)) (fun h => by
            by_cases h2 : b < w9.heap.size
            · exact .inl (.inr ⟨h.1, h2⟩)
            · exact .inr ⟨by omega, by simp; omega⟩))
          have k9b : (w9.alloc (.cells #[.int .i64 p.fs, .int .i64 p.fn, .int .i64 p.ts, .int .i64 p.tn, .slice A9 n9 k9] 32)).heap[w9.heap.size]? = some (.cells #[.int .i64 p.fs, .int .i64 p.fn, .int .i64 p.ts, .int .i64 p.tn, .slice A9 n9 k9] 32 (0, 0)) := heap_alloc_new _ _
          have own9 : (w9.alloc (.cells #[.int .i64 p.fs, .int .i64 p.fn, .int .i64 p.ts, .int .i64 p.tn, .slice A9 n9 k9] 32)).ownsRow w8.heap.size 5 1 (.slice A9 n9 k9) n9 (bsV p.d) := o9.alloc _
          have F10 := Lib.hid ((F6.out.trans H9.fr (fun i hi => .inl hi)).trans (Fr.of_below BB (fp := fun _ => False)) (fun _ h => h.elim))
          have HO9 := Lib.hid (fun g hg => o9.lt g hg)
          have HH10 := Lib.hid H10
          clear o9 H9 H9' H10 C8 BB s9 hz9
          go_wp2_with fail
          generalize hwb : (w9.alloc (.cells #[.int .i64 p.fs, .int .i64 p.fn, .int .i64 p.ts, .int .i64 p.tn, .slice A9 n9 k9] 32)) = wb at *
          clear hwb
          have hne := row_ne own9 k9b
          have HBX := Lib.hid k9b
          go_loopw [11] (fun i uu => ∃ (k : Nat) (xs : List UInt8), i = .int .i64 (k : Int) ∧ k ≤ n9 ∧ uu.ownsRow (w8.heap.size) 5 1 (.slice A9 n9 k9) n9 (bsV xs) ∧ (wb).grownBy uu (Value.slice A9 n9 k9).ownBlock) (fun i _ => n9 - (intOf i).toNat)
          case atStart => exact ⟨0, _, rfl, Nat.zero_le _, own9, World.grownBy.refl _ _⟩
          case round =>
            obtain ⟨k, xs, rfl, hk, hown, hg⟩ := hrel
            have xbx := blk_cell (j := 4) ((hg.block w9.heap.size (heap_lt HBX.out) (fun e => hne w9.heap.size e.symm rfl)).trans HBX.out) rfl
            by_cases hlt : k < n9
            · obtain ⟨g, cap, hv, _, _⟩ := hown.form (by omega)
              injection hv with hv1 hv2 hv3
              have hxl : xs.length = n9 := by have := hown.1; rw [bsV_length] at this; omega
              have hv1' := hv1
              rw [hv1, hv3] at hown hg
              obtain ⟨x, hx, hcell0⟩ : ∃ x : UInt8, xs[k]? = some x ∧ wr.cell? ⟨g, k, none⟩ = some (bV x) := by
                refine ⟨xs[k], List.getElem?_eq_getElem (by omega), ?_⟩
                rw [hown.cellAt k (by omega)]
                simp [bsV, List.getElem?_eq_getElem (show k < xs.length by omega)]
              obtain ⟨cc, hcc, hcx⟩ : ∃ cc : Nat, cc < 256 ∧ bV x = .int .u8 (cc : Int) := ⟨x.toNat, UInt8.toNat_lt x, rfl⟩
              rw [hcx] at hcell0
              obtain ⟨y, hy⟩ := inc_byte cc hcc
              have hfr := hown.frozenAt k
              obtain ⟨R1, R2⟩ := hown.stored k (.int .u8 (IntKind.u8.wrap ((cc : Int) + 1)))
              rw [hy, bsV_set] at R1
              rw [← hy] at R1
              have R2 := World.grownBy.trans hg R2
              have HR := Lib.hid (And.intro R1 R2)
              have HV := Lib.hid (And.intro hv1 hv3)
              clear R1 R2 hown hg hxl hx hcx hy hv1' hne
              subst hv1 hv3
              go_wp2
              go_roundw
              case rel => exact ⟨k + 1, _, by go_num, by omega, HR.out.1, HR.out.2⟩
              case measure => simp [intOf]; omega
            · have H11 := HH10.out.grown (K := fun b => b < w1.heap.size) hg (fun g hg' => ⟨.inr (by have := HO9.out g hg'; omega), fun hh => by have := (HO9.out g hg').1; omega⟩) (fun b hb => .inl hb)
              have C11 := Lib.hid (show Calls Try.prog 12 #[.pointer (some ⟨q, 0, none⟩), .int .i64 0] wr (fun e w' => ∃ A n k, e = .returned (.tuple #[.agg #[.int .i64 p.fs, .int .i64 p.fn, .int .i64 p.ts, .int .i64 p.tn, .slice A n k], .bool true]) ∧ SlB w' A n p.d ∧ n ≤ k ∧ n ≤ tokMax ∧ w'.ownsRow wr.heap.size 5 1 (.slice A n k) n (bsV p.d) ∧ NetP (fun b => b < w1.heap.size) wb w' q [] (fun _ => false) ⟨1, 2, 0⟩ 0 ∧ _) from takePP 0 H11 (by decide) (by decide))
              clear hown hg H11 HH10 k9b own9 hne HBX
              go_wp2_with fail
              refine C11.out.mono ?_
              rintro e w12 ⟨A12, n12, k12, rfl, s12, _, _, _, H12, _⟩
              have BC : Below w12.heap.size w12 (w12.alloc (.cells #[.int .i64 p.fs, .int .i64 p.fn, .int .i64 p.ts, .int .i64 p.tn, .slice A12 n12 k12] 32)) := (Below.refl _ _).alloc (Nat.le_refl _) _
              have F13 := (F10.out.trans H12.fr (fun i hi => .inl hi)).trans (Fr.of_below BC (fp := fun _ => False)) (fun _ h => h.elim)
              have kp := (F13.block w.heap.size hzw (by omega)).trans HX.out.1
              have kc := heap_alloc_new w12 (.cells #[.int .i64 p.fs, .int .i64 p.fn, .int .i64 p.ts, .int .i64 p.tn, .slice A12 n12 k12] 32)
              have sp : SlB (w12.alloc (.cells #[.int .i64 p.fs, .int .i64 p.fn, .int .i64 p.ts, .int .i64 p.tn, .slice A12 n12 k12] 32)) A n p.d := Sl.fr' HX.out.2.1 F13 (fun b hb => by omega)
              have sc : SlB (w12.alloc (.cells #[.int .i64 p.fs, .int .i64 p.fn, .int .i64 p.ts, .int .i64 p.tn, .slice A12 n12 k12] 32)) A12 n12 p.d := Sl.alloc s12 _
              have CS := Lib.hid (same_true p A12 A n12 k12 n kA (w12.alloc (.cells #[.int .i64 p.fs, .int .i64 p.fn, .int .i64 p.ts, .int .i64 p.tn, .slice A12 n12 k12] 32)) sc sp)
              have BF := Lib.hid (HX.out.2.2.trans ((F13.toBelow).mono (by omega)))
              have x0 := blk_cell (j := 0) kp rfl
              have x1 := blk_cell (j := 1) kp rfl
              have x2 := blk_cell (j := 2) kp rfl
              have x3 := blk_cell (j := 3) kp rfl
              have x4 := blk_cell (j := 4) kp rfl
              clear kp kc sp sc F13 BC H12 s12 C11
              go_wp2_with fail
              refine CS.out.mono ?_
              rintro e w14 ⟨rfl, b14⟩
              have HB14 := Lib.hid (BF.out.trans (b14.mono BF.out.size))
              clear b14 CS
              go_wp2
              go_ret
              exact ⟨rfl, HB14.out⟩
end Go.Proofs.Ytcdbpimpmhfkhaa
