/-
  The walk of firthlaw08.NetCopies.
-/
import Derived.Test.YtcdbpimpmhfkhaaNetP
import Derived.Test.YtcdbpimpmhfkhaaShape
import Derived.OpenShut
namespace Go.Proofs.Ytcdbpimpmhfkhaa
open Go.RowKit
set_option linter.unusedVariables false

abbrev pkSh : Sh := .pair (.pair (.int .i64) (.int .i64)) (.pair (.pair (.int .i64) (.int .i64)) (.sl 1 .u8))
theorem pk_open {w : World} {cs : List Value} {x : pkSh.T} (h : Rd w pkSh cs x) : ∃ (p : Pk) (A : Option Addr) (n k : Nat), cs = pkC p A n k ∧ SlB w A n p.d ∧ n ≤ k ∧ n ≤ tokMax ∧ p.wf := by
  obtain ⟨⟨fs, fn⟩, ⟨ts, tn⟩, d⟩ := x
  obtain ⟨c1, c2, rfl, ⟨a1, a2, rfl, ⟨rfl, w1⟩, rfl, w2⟩, d1, d2, rfl, ⟨e1, e2, rfl, ⟨rfl, w3⟩, rfl, w4⟩, ht⟩ := h
  obtain ⟨At, nt, ct, rfl, _⟩ := id ht
  have hb := Rd.bytes ht
  exact ⟨⟨fs, fn, ts, tn, d⟩, At, nt, ct, rfl, hb.1, hb.2.1, by have := hb.2.1; have := hb.2.2; rw [tokMax_eq]; omega, w1, w2, w3, w4⟩
theorem xor_twice (b x : UInt8) : b ^^^ x ^^^ x = b := by
  rw [UInt8.xor_assoc, UInt8.xor_self, UInt8.xor_zero]
theorem flip_flip (p : Pk) (a : Nat) (x : UInt8) (ha : a < p.d.length) : flipP (flipP p a x) a x = p := by
  unfold flipP
  have h1 : (p.d.set a (p.d.getD a 0 ^^^ x)).getD a 0 = p.d.getD a 0 ^^^ x := by
    rw [List.getD_eq_getElem?_getD, List.getElem?_set_self ha]
    rfl
  simp only []
  rw [h1, xor_twice, List.set_set]
  have h2 : p.d.getD a 0 = p.d[a] := by rw [List.getD_eq_getElem?_getD, List.getElem?_eq_getElem ha]; rfl
  rw [h2]
  have : p.d.set a p.d[a] = p.d := List.set_getElem_self ha
  rw [this]
theorem two_flips (p : Pk) (a : Int) (x : UInt8) (n : Nat) (hn : p.d.length = n) : ∃ (ok : Bool) (p' : Pk), flipL [p, p] 1 a x = [p, p'] ∧ flipB [p, p] 1 a = ok ∧ flipL [p, p'] 1 a x = [p, p] ∧ flipB [p, p'] 1 a = ok ∧ (ok = true ∧ 0 ≤ a ∧ a < (n : Int) ∨ ok = false ∧ (a < 0 ∨ (n : Int) ≤ a)) := by
  subst hn
  by_cases ha : 0 ≤ a ∧ a < (p.d.length : Int)
  · refine ⟨true, flipP p a.toNat x, ?_, ?_, ?_, ?_, .inl ⟨rfl, ha⟩⟩
    · show (if 0 ≤ a ∧ a < (p.d.length : Int) then [p, flipP p a.toNat x] else [p, p]) = _
      rw [if_pos ha]
    · show decide (0 ≤ a ∧ a < (p.d.length : Int)) = true
      simpa using ha
    · have e : ((flipP p a.toNat x).d.length : Int) = p.d.length := by unfold flipP; simp
      show (if 0 ≤ a ∧ a < ((flipP p a.toNat x).d.length : Int) then [p, flipP (flipP p a.toNat x) a.toNat x] else [p, flipP p a.toNat x]) = _
      rw [e, if_pos ha, flip_flip p a.toNat x (by omega)]
    · have e : ((flipP p a.toNat x).d.length : Int) = p.d.length := by unfold flipP; simp
      show decide (0 ≤ a ∧ a < ((flipP p a.toNat x).d.length : Int)) = true
      rw [e]
      simpa using ha
  · have h1 : flipL [p, p] 1 a x = [p, p] := by
      show (if 0 ≤ a ∧ a < (p.d.length : Int) then [p, flipP p a.toNat x] else [p, p]) = _
      rw [if_neg ha]
    have h2 : flipB [p, p] 1 a = false := by
      show decide (0 ≤ a ∧ a < (p.d.length : Int)) = false
      simpa using ha
    exact ⟨false, p, h1, h2, h1, h2, .inr ⟨rfl, by omega⟩⟩
set_option maxHeartbeats 8000000 in
set_option maxRecDepth 100000 in
theorem netCopies_walk (cs : List Value) (xp : pkSh.T) (a : Int) (x : Int) (w : World) (r0 : Rd w pkSh cs xp) (w1 : (Lit.int .i64 a).wf = true) (w2 : (Lit.int .u8 x).wf = true) :
    Calls Try.prog 6 #[.agg cs.toArray, .int .i64 a, .int .u8 x] w fun e w' => e = .returned (.bool true) ∧ Below w.heap.size w w' := by
  obtain ⟨p, A, n, k, rfl, hs, hc, hn, hwf⟩ := pk_open r0
  obtain ⟨y, hy⟩ : ∃ y : UInt8, (.int .u8 x : Value) = bV y := by
    have hb := bounds_u8 w2
    refine ⟨UInt8.ofNat x.toNat, ?_⟩
    simp only [bV, UInt8.toNat_ofNat']
    congr 1
    omega
  have hn1 : p.d.length = n := SlB.len hs
  obtain ⟨ok, p', f1, f2, f3, f4, f5⟩ := two_flips p a y n hn1
  rw [hy]
  show Calls _ _ #[.agg #[.int .i64 p.fs, .int .i64 p.fn, .int .i64 p.ts, .int .i64 p.tn, .slice A n k], .int .i64 a, bV y] _ _
  clear r0 w1 w2 hy
  have kb : (w.alloc (.cells #[.int .i64 p.fs, .int .i64 p.fn, .int .i64 p.ts, .int .i64 p.tn, .slice A n k] 32)).heap[w.heap.size]? = some (.cells #[.int .i64 p.fs, .int .i64 p.fn, .int .i64 p.ts, .int .i64 p.tn, .slice A n k] 32 (0, 0)) := heap_alloc_new _ _
  have HA := Lib.hid (And.intro kb (And.intro (Sl.alloc hs (.cells #[.int .i64 p.fs, .int .i64 p.fn, .int .i64 p.ts, .int .i64 p.tn, .slice A n k] 32)) ((Below.refl _ w).alloc (Nat.le_refl _) (.cells #[.int .i64 p.fs, .int .i64 p.fn, .int .i64 p.ts, .int .i64 p.tn, .slice A n k] 32))))
  have HF := Lib.hid (And.intro f1 (And.intro f2 (And.intro f3 (And.intro f4 f5))))
  clear kb hs f1 f2 f3 f4 f5 hn1
  go_enter Try.func6, Try.ntmps6
  go_wp2_with fail
  refine (awake_any _).mono ?_
  rintro e w1 ⟨rfl, B1⟩
  obtain ⟨kb, hs, B0⟩ := HA.out
  have kb1 := (B1.block w.heap.size (by simp)).trans kb
  have hz1 : w.heap.size < w1.heap.size := heap_lt kb1
  have hs1 := Sl.below hs B1
  have B01 := B0.trans (B1.mono (by simp))
  have HX := Lib.hid (And.intro kb1 (And.intro (show SlB w1 A n p.d from hs1) B01))
  clear kb hs B0 B1 kb1 hs1 B01 HA
  go_wp2_with fail
  refine (newP w1).mono ?_
  rintro e w2 ⟨q, rfl, H2⟩
  have kb2 := (H2.fr.block w.heap.size hz1 (by omega)).trans HX.out.1
  have x0 := blk_cell (j := 0) kb2 rfl
  have x1 := blk_cell (j := 1) kb2 rfl
  have x2 := blk_cell (j := 2) kb2 rfl
  have x3 := blk_cell (j := 3) kb2 rfl
  have x4 := blk_cell (j := 4) kb2 rfl
  have C3 := Lib.hid (show Calls Try.prog 11 #[.pointer (some ⟨q, 0, none⟩), .agg #[.int .i64 p.fs, .int .i64 p.fn, .int .i64 p.ts, .int .i64 p.tn, .slice A n k]] w2 (fun e w' => e = .returned (.bool true) ∧ NetP (fun b => b < w1.heap.size) w1 w' q [p] (fun _ => false) ⟨1, 0, 0⟩ 0) from
    sendP p A n k H2 (by decide) hwf (Sl.fr' HX.out.2.1 H2.fr (fun b hb => by omega)) hc hn)
  clear H2 kb2
  go_wp2_with fail
  refine C3.out.mono ?_
  rintro e w3 ⟨rfl, H3⟩
  have C4 := Lib.hid (show Calls Try.prog 16 #[.pointer (some ⟨q, 0, none⟩), .int .i64 0] w3 (fun e w' => e = .returned (.bool true) ∧ NetP (fun b => b < w1.heap.size) w1 w' q [p, p] (fun _ => false) ⟨1, 0, 0⟩ 0) from copyP 0 H3)
  clear H3 C3 x0 x1 x2 x3 x4
  go_wp2_with fail
  refine C4.out.mono ?_
  rintro e w4 ⟨rfl, H4⟩
  have C5 := Lib.hid (show Calls Try.prog 16 #[.pointer (some ⟨q, 0, none⟩), .int .i64 2] w4 (fun e w' => e = .returned (.bool false) ∧ NetP (fun b => b < w1.heap.size) w1 w' q [p, p] (fun _ => false) ⟨1, 0, 0⟩ 0) from copyP 2 H4)
  clear H4 C4
  go_wp2_with fail
  refine C5.out.mono ?_
  rintro e w5 ⟨rfl, H5⟩
  have C6 := Lib.hid (show Calls Try.prog 16 #[.pointer (some ⟨q, 0, none⟩), .int .i64 (-1)] w5 (fun e w' => e = .returned (.bool false) ∧ NetP (fun b => b < w1.heap.size) w1 w' q [p, p] (fun _ => false) ⟨1, 0, 0⟩ 0) from copyP (-1) H5)
  clear H5 C5
  go_wp2_with fail
  refine C6.out.mono ?_
  rintro e w6 ⟨rfl, H6⟩
  have C7 := Lib.hid (show Calls Try.prog 14 #[.pointer (some ⟨q, 0, none⟩)] w6 (fun e w' => e = .returned (.int .i64 2) ∧ w6 = w') from lenP H6)
  have HH6 := Lib.hid H6
  clear H6 C6
  go_wp2_with fail
  refine C7.out.mono ?_
  rintro e w' ⟨rfl, rfl⟩
  have C8 := flipP_ 1 a y HH6.out
  rw [HF.out.1, HF.out.2.1] at C8
  have HC8 := Lib.hid C8
  clear C8 C7 HH6
  go_wp2_with fail
  refine HC8.out.mono ?_
  rintro e w7 ⟨rfl, H7⟩
  have C9 := Lib.hid (show Calls Try.prog 15 #[.pointer (some ⟨q, 0, none⟩), .int .i64 0] w7 (NewPkB w7 p true) from lookPP 0 H7)
  have HH7 := Lib.hid H7
  clear H7 HC8
  go_wp2_with fail
  refine C9.out.mono ?_
  rintro e w8 ⟨A8, n8, k8, rfl, s8, hc8, hn8, o8, b8⟩
  have hz7 : w1.heap.size ≤ w7.heap.size := HH7.out.fr.size
  have hz8 := b8.size
  have BB : Below w7.heap.size w7 (w8.alloc (.cells #[.int .i64 p.fs, .int .i64 p.fn, .int .i64 p.ts, .int .i64 p.tn, .slice A8 n8 k8] 32)) := b8.alloc b8.size _
  have H8 := HH7.out.over (K2 := fun b => b < w1.heap.size ∨ w7.heap.size ≤ b ∧ b < w8.heap.size + 1) BB (fun b hb => hb.imp id (fun e => by simpa using e))
  have k8b : (w8.alloc (.cells #[.int .i64 p.fs, .int .i64 p.fn, .int .i64 p.ts, .int .i64 p.tn, .slice A8 n8 k8] 32)).heap[w8.heap.size]? = some (.cells #[.int .i64 p.fs, .int .i64 p.fn, .int .i64 p.ts, .int .i64 p.tn, .slice A8 n8 k8] 32 (0, 0)) := heap_alloc_new _ _
  have C10 := flipP_ 1 a y H8
  rw [HF.out.2.2.1, HF.out.2.2.2.1] at C10
  have HC10 := Lib.hid C10
  have F18 := HH7.out.fr.trans (Fr.of_below BB (fp := fun _ => False)) (fun _ h => h.elim)
  have HY := Lib.hid (And.intro k8b (And.intro (show SlB (w8.alloc (.cells #[.int .i64 p.fs, .int .i64 p.fn, .int .i64 p.ts, .int .i64 p.tn, .slice A8 n8 k8] 32)) A8 n8 p.d from Sl.alloc s8 _) (And.intro (fun b (hb : (Value.slice A8 n8 k8).ownBlock = some b) => o8.lt b hb) F18)))
  clear C10 H8 BB k8b s8 o8 b8 HH7 C9 F18
  go_wp2_with fail
  refine HC10.out.mono ?_
  rintro e w9 ⟨rfl, H9⟩
  have C11 := Lib.hid (show Calls Try.prog 15 #[.pointer (some ⟨q, 0, none⟩), .int .i64 1] w9 (NewPkB w9 p true) from lookPP 1 H9)
  have HH9 := Lib.hid H9.fr
  clear H9 HC10
  go_wp2_with fail
  refine C11.out.mono ?_
  rintro e w10 ⟨A10, n10, k10, rfl, s10, hc10, hn10, o10, b10⟩
  obtain ⟨k8b, s8, o8, F18⟩ := HY.out
  have hzz := HH9.out.size
  simp at hzz
  have B10 := b10.alloc b10.size (.cells #[.int .i64 p.fs, .int .i64 p.fn, .int .i64 p.ts, .int .i64 p.tn, .slice A10 n10 k10] 32)
  have kb10 : (w10.alloc (.cells #[.int .i64 p.fs, .int .i64 p.fn, .int .i64 p.ts, .int .i64 p.tn, .slice A10 n10 k10] 32)).heap[w10.heap.size]? = some (.cells #[.int .i64 p.fs, .int .i64 p.fn, .int .i64 p.ts, .int .i64 p.tn, .slice A10 n10 k10] 32 (0, 0)) := heap_alloc_new _ _
  have ka := (B10.block w8.heap.size (by omega)).trans ((HH9.out.block w8.heap.size (by simp) (by omega)).trans k8b)
  have F110 := (F18.trans HH9.out (fun i hi => .inl (fun hh => hi (.inl hh)))).trans (Fr.of_below B10 (fp := fun _ => False)) (fun _ h => h.elim)
  have kp := (F110.block w.heap.size hz1 (by omega)).trans HX.out.1
  have sa : SlB (w10.alloc (.cells #[.int .i64 p.fs, .int .i64 p.fn, .int .i64 p.ts, .int .i64 p.tn, .slice A10 n10 k10] 32)) A8 n8 p.d := Sl.below (Sl.frK (K := fun b => b < w1.heap.size ∨ w7.heap.size ≤ b ∧ b < w8.heap.size + 1) s8 HH9.out (fun b off s _ e => .inr (by have := o8 b (by rw [e]; rfl); omega))) B10
  have sp : SlB (w10.alloc (.cells #[.int .i64 p.fs, .int .i64 p.fn, .int .i64 p.ts, .int .i64 p.tn, .slice A10 n10 k10] 32)) A n p.d := Sl.fr' HX.out.2.1 F110 (fun b hb => by omega)
  have sb : SlB (w10.alloc (.cells #[.int .i64 p.fs, .int .i64 p.fn, .int .i64 p.ts, .int .i64 p.tn, .slice A10 n10 k10] 32)) A10 n10 p.d := Sl.alloc s10 _
  have CS1 := Lib.hid (same_true p A8 A n8 k8 n k _ sa sp)
  have BF := HX.out.2.2.trans ((F110.toBelow).mono (by omega))
  have x0 := blk_cell (j := 0) kp rfl
  have x1 := blk_cell (j := 1) kp rfl
  have x2 := blk_cell (j := 2) kp rfl
  have x3 := blk_cell (j := 3) kp rfl
  have x4 := blk_cell (j := 4) kp rfl
  have u0 := blk_cell (j := 0) ka rfl
  have u1 := blk_cell (j := 1) ka rfl
  have u2 := blk_cell (j := 2) ka rfl
  have u3 := blk_cell (j := 3) ka rfl
  have u4 := blk_cell (j := 4) ka rfl
  have HZ := Lib.hid (And.intro kp (And.intro kb10 (And.intro sp (And.intro sb BF))))
  have hok := HF.out.2.2.2.2
  clear kp kb10 ka sa sp sb BF F110 B10 b10 o10 s10 HY k8b s8 o8 F18 HX HF C11 HH9
  rcases hok with ⟨rfl, h0, h1⟩ | ⟨rfl, h0 | h0⟩
  · have d1 : decide (0 ≤ a) = true := by simpa using h0
    have d2 : decide (a < (n : Int)) = true := by simpa using h1
    clear h0 h1
    go_wp2_with fail
    refine CS1.out.mono ?_
    rintro e w11 ⟨rfl, b11⟩
    obtain ⟨kp, kb10, sp, sb, BF⟩ := HZ.out
    have kp2 := (b11.block w.heap.size (heap_lt kp)).trans kp
    have kb2 := (b11.block w10.heap.size (heap_lt kb10)).trans kb10
    have y0 := blk_cell (j := 0) kp2 rfl
    have y1 := blk_cell (j := 1) kp2 rfl
    have y2 := blk_cell (j := 2) kp2 rfl
    have y3 := blk_cell (j := 3) kp2 rfl
    have y4 := blk_cell (j := 4) kp2 rfl
    have v0 := blk_cell (j := 0) kb2 rfl
    have v1 := blk_cell (j := 1) kb2 rfl
    have v2 := blk_cell (j := 2) kb2 rfl
    have v3 := blk_cell (j := 3) kb2 rfl
    have v4 := blk_cell (j := 4) kb2 rfl
    have CS2 := Lib.hid (same_true p A10 A n10 k10 n k w11 (Sl.below sb b11) (Sl.below sp b11))
    have HB2 := Lib.hid (BF.trans (b11.mono BF.size))
    clear kp kb10 sp sb BF kp2 kb2 b11 CS1
    go_wp2_with fail
    refine CS2.out.mono ?_
    rintro e w12 ⟨rfl, b12⟩
    have HB3 := Lib.hid (HB2.out.trans (b12.mono HB2.out.size))
    clear b12 CS2
    go_wp2
    go_ret
    exact ⟨rfl, HB3.out⟩
  · have d1 : decide (0 ≤ a) = false := by simp; omega
    clear h0
    go_wp2_with fail
    refine CS1.out.mono ?_
    rintro e w11 ⟨rfl, b11⟩
    obtain ⟨kp, kb10, sp, sb, BF⟩ := HZ.out
    have kp2 := (b11.block w.heap.size (heap_lt kp)).trans kp
    have kb2 := (b11.block w10.heap.size (heap_lt kb10)).trans kb10
    have y0 := blk_cell (j := 0) kp2 rfl
    have y1 := blk_cell (j := 1) kp2 rfl
    have y2 := blk_cell (j := 2) kp2 rfl
    have y3 := blk_cell (j := 3) kp2 rfl
    have y4 := blk_cell (j := 4) kp2 rfl
    have v0 := blk_cell (j := 0) kb2 rfl
    have v1 := blk_cell (j := 1) kb2 rfl
    have v2 := blk_cell (j := 2) kb2 rfl
    have v3 := blk_cell (j := 3) kb2 rfl
    have v4 := blk_cell (j := 4) kb2 rfl
    have CS2 := Lib.hid (same_true p A10 A n10 k10 n k w11 (Sl.below sb b11) (Sl.below sp b11))
    have HB2 := Lib.hid (BF.trans (b11.mono BF.size))
    clear kp kb10 sp sb BF kp2 kb2 b11 CS1
    go_wp2_with fail
    refine CS2.out.mono ?_
    rintro e w12 ⟨rfl, b12⟩
    have HB3 := Lib.hid (HB2.out.trans (b12.mono HB2.out.size))
    clear b12 CS2
    go_wp2
    go_ret
    exact ⟨rfl, HB3.out⟩
  · have d1 : decide (0 ≤ a) = true := by simp; omega
    have d2 : decide (a < (n : Int)) = false := by simp; omega
    clear h0
    go_wp2_with fail
    refine CS1.out.mono ?_
    rintro e w11 ⟨rfl, b11⟩
    obtain ⟨kp, kb10, sp, sb, BF⟩ := HZ.out
    have kp2 := (b11.block w.heap.size (heap_lt kp)).trans kp
    have kb2 := (b11.block w10.heap.size (heap_lt kb10)).trans kb10
    have y0 := blk_cell (j := 0) kp2 rfl
    have y1 := blk_cell (j := 1) kp2 rfl
    have y2 := blk_cell (j := 2) kp2 rfl
    have y3 := blk_cell (j := 3) kp2 rfl
    have y4 := blk_cell (j := 4) kp2 rfl
    have v0 := blk_cell (j := 0) kb2 rfl
    have v1 := blk_cell (j := 1) kb2 rfl
    have v2 := blk_cell (j := 2) kb2 rfl
    have v3 := blk_cell (j := 3) kb2 rfl
    have v4 := blk_cell (j := 4) kb2 rfl
    have CS2 := Lib.hid (same_true p A10 A n10 k10 n k w11 (Sl.below sb b11) (Sl.below sp b11))
    have HB2 := Lib.hid (BF.trans (b11.mono BF.size))
    clear kp kb10 sp sb BF kp2 kb2 b11 CS1
    go_wp2_with fail
    refine CS2.out.mono ?_
    rintro e w12 ⟨rfl, b12⟩
    have HB3 := Lib.hid (HB2.out.trans (b12.mono HB2.out.size))
    clear b12 CS2
    go_wp2
    go_ret
    exact ⟨rfl, HB3.out⟩
end Go.Proofs.Ytcdbpimpmhfkhaa
