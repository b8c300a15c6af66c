/-
  The walk of firthlaw08.NetPlays.
-/
import Derived.Test.YtcdbpimpmhfkhaaNetDoes
import Derived.Test.YtcdbpimpmhfkhaaExt
import Derived.Test.YtcdbpimpmhfkhaaShape
import Derived.Deep.LoopGhost
import Derived.Deep.QuietTactic
import Derived.BigQuiet
namespace Go.Proofs.Ytcdbpimpmhfkhaa
open Go.RowKit
set_option linter.unusedVariables false

abbrev nopSh : Sh := .pair (.int .i64) (.pair pkSh (.pair (.int .i64) (.pair (.int .i64) .u8)))
theorem nop_at {w : World} {A : Option Addr} {n c k : Nat} {ls : List nopSh.T} (r : Rd w (.sl 88 nopSh) [.slice A n c] ls) (hk : k < n) :
    ∃ (g off : Nat) (kd i a : Int) (x : UInt8) (p : Pk) (At : Option Addr) (nt ct : Nat), A = some ⟨g, off, none⟩ ∧ w.cell? ⟨g, off + k * 9, none⟩ = some (.int .i64 kd) ∧ w.cell? ⟨g, off + k * 9 + 1, none⟩ = some (.int .i64 p.fs) ∧ w.cell? ⟨g, off + k * 9 + 2, none⟩ = some (.int .i64 p.fn) ∧ w.cell? ⟨g, off + k * 9 + 3, none⟩ = some (.int .i64 p.ts) ∧
      w.cell? ⟨g, off + k * 9 + 4, none⟩ = some (.int .i64 p.tn) ∧ w.cell? ⟨g, off + k * 9 + 5, none⟩ = some (.slice At nt ct) ∧ w.cell? ⟨g, off + k * 9 + 6, none⟩ = some (.int .i64 i) ∧ w.cell? ⟨g, off + k * 9 + 7, none⟩ = some (.int .i64 a) ∧ w.cell? ⟨g, off + k * 9 + 8, none⟩ = some (bV x) ∧
      SlB w At nt p.d ∧ nt ≤ ct ∧ nt ≤ tokMax ∧ p.wf := by
  obtain ⟨_, _, _, _, h⟩ := r.elem
  obtain ⟨g, off, x, xs, rfl, _, _, hc, hx⟩ := h k hk
  obtain ⟨kd, pp, i, a, x⟩ := x
  obtain ⟨c1, c2, rfl, ⟨rfl, _⟩, d1, d2, rfl, hp, e1, e2, rfl, ⟨rfl, _⟩, f1, f2, rfl, ⟨rfl, _⟩, hx9⟩ := hx
  obtain rfl : _ = _ := hx9
  obtain ⟨p, At, nt, ct, rfl, hs, h1, h2, h3⟩ := pk_open hp
  exact ⟨g, off, kd, i, a, x, p, At, nt, ct, rfl, hc 0 _ rfl, hc 1 _ rfl, hc 2 _ rfl, hc 3 _ rfl, hc 4 _ rfl, hc 5 _ rfl, hc 6 _ rfl, hc 7 _ rfl, hc 8 _ rfl, hs, h1, h2, h3⟩
theorem lookP_nat (l : List Pk) (k : Nat) : lookP l (k : Int) = l[k]? := by unfold lookP; rw [if_pos (by omega), Int.toNat_natCast]
set_option maxHeartbeats 20000000 in
set_option maxRecDepth 100000 in
theorem netPlays_walk (a0 : Option Addr) (len0 cap0 : Nat) (ls : List nopSh.T) (w : World) (r1 : Rd w (.sl 88 nopSh) [.slice a0 len0 cap0] ls) :
    Calls Try.prog 8 #[.slice a0 len0 cap0] w fun e w' => e = .returned (.bool true) ∧ Below w.heap.size w w' := by
  obtain ⟨-, z1, z2, -, -⟩ := r1.elem
  have hlen : len0 ≤ 1700000000000 := by omega
  have R1 := Lib.hid r1
  clear r1 z1 z2
  go_enter Try.func8, Try.ntmps8
  go_wp2_with fail
  refine (awake_any w).mono ?_
  rintro e w1 ⟨rfl, B1⟩
  have HB1 := Lib.hid B1
  clear B1
  go_wp2_with fail
  refine (newP w1).mono ?_
  rintro e w2 ⟨p, rfl, H1⟩
  have HB := Lib.hid (bothN H1)
  have hz1 := HB1.out.size
  have hz2 := H1.fr.size
  clear H1
  go_wp2
  go_loopg [5] len0 (fun g i wr => ∃ (k m : Nat) (l : List Pk) (C : K4 → Bool) (c : Cnt) (cl : List K4), i = .int .i64 (k : Int) ∧ g = len0 - k ∧ k ≤ len0 ∧ m ≤ k ∧ cl.length ≤ k ∧ ((0 ≤ c.s ∧ c.s ≤ k) ∧ (0 ≤ c.t ∧ c.t ≤ k) ∧ (0 ≤ c.x ∧ c.x ≤ k)) ∧ Hid (Par cl C) ∧ Hid (NBoth (fun b => b < w1.heap.size) w1 wr p w2.heap.size l C c m l cl c))
  case atStart => exact ⟨0, 0, [], _, ⟨0, 0, 0⟩, [], rfl, rfl, Nat.zero_le _, Nat.zero_le _, Nat.zero_le _, ⟨⟨by decide, by decide⟩, ⟨by decide, by decide⟩, by decide, by decide⟩, Lib.hid Par.nil, HB⟩
  case round =>
    obtain ⟨k, m, l, C, c, cl, rfl, rfl, hk, hm, hcl, hc, HP, HL⟩ := hrel
    clear HB
    by_cases hlt : k < len0
    · obtain ⟨g, off, kd, i, a, x, pk, At, nt, ct, rfl, x0, x1, x2, x3, x4, x5, x6, x7, x8, hs, hnc, hnt, hwf⟩ := nop_at R1.out hlt
      have lift : ∀ {j : Nat} {v : Value}, w.cell? ⟨g, j, none⟩ = some v → w1.cell? ⟨g, j, none⟩ = some v := fun hv => (HB1.out.cell (World.block_lt_of_cell? w _ hv)).trans hv
      have X1 := Lib.hid (lift x1)
      have X2 := Lib.hid (lift x2)
      have X3 := Lib.hid (lift x3)
      have X4 := Lib.hid (lift x4)
      have y0 := HL.out.fr.cell' (lift x0)
      have y1 := HL.out.fr.cell' X1.out
      have y2 := HL.out.fr.cell' X2.out
      have y3 := HL.out.fr.cell' X3.out
      have y4 := HL.out.fr.cell' X4.out
      have y5 := HL.out.fr.cell' (lift x5)
      have y6 := HL.out.fr.cell' (lift x6)
      have y7 := HL.out.fr.cell' (lift x7)
      have y8 := HL.out.fr.cell' (lift x8)
      have hs1 := Sl.below hs HB1.out
      have CD := Lib.hid (does_any HL.out HP.out ⟨⟨hc.1.1, by omega⟩, ⟨hc.2.1.1, by omega⟩, hc.2.2.1, by omega⟩ (by omega) (by omega) kd i a pk At nt ct x hwf (Sl.fr' hs1 HL.out.fr (fun b hb => by omega)) hnc hnt (fun b off s hn e => Sl.blk_lt hs1 (by omega) e))
      have HPW := Lib.hid (pairK_wf hwf.2.2.1 hwf.2.2.2 hwf.1 hwf.2.1)
      have i0 : (0 : Int) ≤ (k : Int) := by omega
      have i1 : (k : Int) < (len0 : Int) := by omega
      clear x0 x1 x2 x3 x4 x5 x6 x7 x8 hs hs1 hnc hnt hwf lift HL HP
      go_wp2_with fail
      refine CD.out.mono ?_
      rintro e w3 ⟨rfl, l', C', c', m', cl', H3, HP3, hm3, hcl3, hcnt⟩
      have HT := Lib.hid (tallyP H3.netP)
      have HN := Lib.hid H3
      have HPP := Lib.hid HP3
      clear CD H3 HP3 y0 y5 y6 y7 y8 y1 y2 y3 y4
      go_wp2_with fail
      refine HT.out.mono ?_
      rintro e _ ⟨rfl, kk, rfl⟩
      have H4 := HN.out.below (below_drewN (Below.refl _ w3) kk)
      obtain ⟨fr, hr⟩ := H4.rnet
      obtain ⟨A0, k0, d0, _, hmx⟩ := hr.len_
      obtain ⟨d2, d3, d4, _⟩ := hr.cnt_
      obtain ⟨bb, hbb⟩ : ∃ bb, C' (pairK pk.ts pk.tn pk.fs pk.fn) = bb := ⟨_, rfl⟩
      have HH4 := Lib.hid H4
      have CL := Lib.hid (fun z : Ext (w3.drewN kk) => (lenP (HH4.out.below z.below).netP).mono fun e w' he => (⟨he.1, he.2.symm⟩ : e = Ending.returned _ ∧ w' = z.w))
      have CP := Lib.hid (fun z : Ext (w3.drewN kk) => show Calls Try.prog 21 #[.pointer (some ⟨p, 0, none⟩), .agg #[.int .i64 pk.ts, .int .i64 pk.tn], .agg #[.int .i64 pk.fs, .int .i64 pk.fn]] z.w (fun e w' => e = .returned (.bool bb) ∧ Below z.w.heap.size z.w w') from by rw [← hbb]; exact partedP pk.ts pk.tn pk.fs pk.fn (HH4.out.below z.below).netP HPW.out)
      have CR := Lib.hid (fun z : Ext (w3.drewN kk) => show Calls Try.prog 23 #[.pointer (some ⟨w2.heap.size, 0, none⟩), .agg #[.int .i64 pk.ts, .int .i64 pk.tn], .agg #[.int .i64 pk.fs, .int .i64 pk.fn]] z.w (fun e w' => e = .returned (.bool bb) ∧ Below z.w.heap.size z.w w') from by
        rw [← hbb, ← HPP.out]
        obtain ⟨fr, hr⟩ := (HH4.out.below z.below).rnet
        exact refParted_any pk.ts pk.tn pk.fs pk.fn hr)
      have D0 := Ext.cell d0
      have D2 := Ext.cell d2
      have D3 := Ext.cell d3
      have D4 := Ext.cell d4
      have Y1 := Ext.cell (H4.fr.cell' X1.out)
      have Y2 := Ext.cell (H4.fr.cell' X2.out)
      have Y3 := Ext.cell (H4.fr.cell' X3.out)
      have Y4 := Ext.cell (H4.fr.cell' X4.out)
      have hc' := hcnt
      unfold CntLe at hc'
      clear d0 d2 d3 d4 hr hbb H4 HT hcnt
      go_wp2_with fail
      refine wp_region_ext (by kernel_rfl) (by kernel_rfl) ?_
      repeat (go_big_quiet_step (first
        | (go_at_call 14; exact Calls.ext_same (CL.out _))
        | (go_at_call 21; exact Calls.ext_of (CP.out _))
        | (go_at_call 23; exact Calls.ext_of (CR.out _))))
      refine wpQuiet_nil ?_
      intro w4 hw4
      have HE := Lib.hid (HH4.out.below (ext_end hw4))
      clear hw4 D0 D2 D3 D4 Y1 Y2 Y3 Y4 CL CP CR
      go_wp2
      go_roundg (len0 - (k + 1))
      case measure => omega
      case rel => exact ⟨k + 1, m', l', C', c', cl', by go_num, rfl, by omega, by omega, by omega, ⟨⟨by omega, by omega⟩, ⟨by omega, by omega⟩, by omega, by omega⟩, HPP, HE⟩
    · obtain rfl : k = len0 := by omega
      have hl4 := HL.out.len
      clear hc HP
      go_wp2
      go_loopw [9] (fun i uu => ∃ k2 : Nat, i = .int .i64 (k2 : Int) ∧ k2 ≤ l.length ∧ Hid (NBoth (fun b => b < w1.heap.size) w1 uu p w2.heap.size l C c m l cl c)) (fun i _ => l.length - (intOf i).toNat)
      case atStart => exact ⟨0, rfl, Nat.zero_le _, HL⟩
      case round =>
        obtain ⟨k2, rfl, hk2, HI⟩ := hrel
        clear HL
        obtain ⟨fr, hr⟩ := HI.out.rnet
        obtain ⟨A0, k0, d0, _, hmx⟩ := hr.len_
        by_cases hlt2 : k2 < l.length
        · obtain ⟨y, hy⟩ : ∃ y, l[k2]? = some y := ⟨_, List.getElem?_eq_getElem hlt2⟩
          obtain ⟨g, cc, A, n, k3, e0, e1, e2, e3, e4, e5, -, hd, -, -⟩ := hr.at_ hy
          have cl0 := lookN (k2 : Int) HI.out
          rw [lookP_nat, hy] at cl0
          have CL := Lib.hid cl0
          have HS := Lib.hid (show SlB wr A n y.d from hd.1.1)
          have HE := Lib.hid (And.intro e0 (And.intro e1 (And.intro e2 (And.intro e3 (And.intro e4 e5)))))
          have i0 : (0 : Int) ≤ (k2 : Int) := by omega
          have i1 : (k2 : Int) < (l.length : Int) := by omega
          clear hy hd cl0 hr e0 e1 e2 e3 e4 e5
          go_wp2_with fail
          refine CL.out.mono ?_
          rintro e w3 ⟨A3, n3, k3', rfl, t3, -, -, -, b3⟩
          simp only [Option.getD_some] at t3 ⊢
          have bA := b3.alloc b3.size (.cells #[.int .i64 y.fs, .int .i64 y.fn, .int .i64 y.ts, .int .i64 y.tn, .slice A3 n3 k3'] 32)
          have kb := heap_alloc_new w3 (.cells #[.int .i64 y.fs, .int .i64 y.fn, .int .i64 y.ts, .int .i64 y.tn, .slice A3 n3 k3'] 32)
          have up : ∀ {q : Addr} {v : Value}, wr.cell? q = some v → (w3.alloc (.cells #[.int .i64 y.fs, .int .i64 y.fn, .int .i64 y.ts, .int .i64 y.tn, .slice A3 n3 k3'] 32)).cell? q = some v := fun hv => (bA.cell (World.block_lt_of_cell? wr _ hv)).trans hv
          obtain ⟨e0, e1, e2, e3, e4, e5⟩ := HE.out
          have D0 := Ext.cell (up e0)
          have D1 := Ext.cell (up e1)
          have D2 := Ext.cell (up e2)
          have D3 := Ext.cell (up e3)
          have D4 := Ext.cell (up e4)
          have D5 := Ext.cell (up e5)
          have Y0 := Ext.cell (blk_cell (j := 0) kb rfl)
          have Y1 := Ext.cell (blk_cell (j := 1) kb rfl)
          have Y2 := Ext.cell (blk_cell (j := 2) kb rfl)
          have Y3 := Ext.cell (blk_cell (j := 3) kb rfl)
          have Y4 := Ext.cell (blk_cell (j := 4) kb rfl)
          have HT3 := Lib.hid (show SlB (w3.alloc (.cells #[.int .i64 y.fs, .int .i64 y.fn, .int .i64 y.ts, .int .i64 y.tn, .slice A3 n3 k3'] 32)) A3 n3 y.d from Sl.alloc t3 _)
          have HS3 := Lib.hid (Sl.below HS.out bA)
          have CS := Lib.hid (fun z : Ext (w3.alloc (.cells #[.int .i64 y.fs, .int .i64 y.fn, .int .i64 y.ts, .int .i64 y.tn, .slice A3 n3 k3'] 32)) => same_true y A3 A n3 k3' n k3 z.w (Sl.below HT3.out z.below) (Sl.below HS3.out z.below))
          have HI2 := Lib.hid (HI.out.below bA)
          clear CL b3 t3 bA kb up e0 e1 e2 e3 e4 e5 HE d0
          go_wp2_with fail
          refine wp_region_ext (by kernel_rfl) (by kernel_rfl) ?_
          repeat (go_big_quiet_step ((go_at_call 13; exact Calls.ext_of (CS.out _))))
          refine wpQuiet_nil ?_
          intro w4 hw4
          have HI3 := Lib.hid (HI2.out.below (ext_end hw4))
          clear hw4 D0 D1 D2 D3 D4 D5 Y0 Y1 Y2 Y3 Y4 CS
          go_wp2
          go_roundw
          case rel => exact ⟨k2 + 1, by go_num, by omega, HI3⟩
          case measure => simp [intOf]; omega
        · obtain rfl : k2 = l.length := by omega
          have hE := Lib.hid (HB1.out.trans ((HI.out.fr.below (B := w1.heap.size) (fun i hi => by omega) (Nat.le_refl _)).mono HB1.out.size))
          clear hr
          go_wp2
          go_ret
          exact ⟨rfl, hE.out⟩
end Go.Proofs.Ytcdbpimpmhfkhaa
