/-
  The walk of firthlaw08.NetParts.
-/
import Derived.Test.YtcdbpimpmhfkhaaNetCopiesWalk
import Derived.Test.YtcdbpimpmhfkhaaNetPart
import Derived.Test.YtcdbpimpmhfkhaaExt
import Derived.Deep.RegionHeld3
namespace Go.Proofs.Ytcdbpimpmhfkhaa
open Go.RowKit
set_option linter.unusedVariables false

section
variable {K : Nat → Prop} {w0 w w' : World} {p m : Nat} {l : List Pk} {C : K4 → Bool} {c : Cnt}
theorem partedP (as_ an bs bn : Int) (h : NetP K w0 w p l C c m) (hw : (pairK as_ an bs bn).wf) :
    Calls Try.prog 21 #[.pointer (some ⟨p, 0, none⟩), .agg #[.int .i64 as_, .int .i64 an], .agg #[.int .i64 bs, .int .i64 bn]] w (NewV w (.bool (C (pairK as_ an bs bn)))) := by
  obtain ⟨G, fp, rfl, h1, h2, h3, h4⟩ := h
  exact parted_any as_ an bs bn h1 hw
/-- What Part leaves. -/
def PartP (K : Nat → Prop) (w0 : World) (p : Nat) (l : List Pk) (C : K4 → Bool) (c : Cnt) (m : Nat) (e : Ending) (w' : World) : Prop :=
  e = .returned (.tuple #[]) ∧ ∃ m', m' ≤ m + 1 ∧ NetP K w0 w' p l C c m'
theorem partP (as_ an bs bn : Int) (cut : Bool) (h : NetP K w0 w p l C c m) (hw : (pairK as_ an bs bn).wf) (hm : m < maxLen) :
    Calls Try.prog 20 #[.pointer (some ⟨p, 0, none⟩), .agg #[.int .i64 as_, .int .i64 an], .agg #[.int .i64 bs, .int .i64 bn], .bool cut] w (PartP K w0 p l (partC C (pairK as_ an bs bn) (cut && !decide (as_ = bs ∧ an = bn))) c m) := by
  obtain ⟨G, fp, rfl, h1, h2, h3, h4⟩ := h
  cases cut
  · refine (part_off as_ an bs bn h1 hw).mono ?_
    rintro e w' ⟨he, m', hm', h', F⟩
    exact ⟨he, m', hm', .step h3 h2 h4 rfl h' F (Grow.refl _ _)⟩
  · refine (part_on as_ an bs bn h1 hw hm).mono ?_
    rintro e w' ⟨he, m', hm', h', F⟩
    exact ⟨he, m', hm', .step h3 h2 h4 rfl h' F (Grow.refl _ _)⟩
end
theorem pk_at {w : World} {A : Option Addr} {n c k : Nat} {ls : List pkSh.T} (r : Rd w (.sl 56 pkSh) [.slice A n c] ls) (hk : k < n) :
    ∃ (g off : Nat) (p : Pk) (At : Option Addr) (nt ct : Nat), A = some ⟨g, off, none⟩ ∧ w.cell? ⟨g, off + k * 5, none⟩ = some (.int .i64 p.fs) ∧ w.cell? ⟨g, off + k * 5 + 1, none⟩ = some (.int .i64 p.fn) ∧ w.cell? ⟨g, off + k * 5 + 2, none⟩ = some (.int .i64 p.ts) ∧
      w.cell? ⟨g, off + k * 5 + 3, none⟩ = some (.int .i64 p.tn) ∧ w.cell? ⟨g, off + k * 5 + 4, none⟩ = some (.slice At nt ct) ∧ SlB w At nt p.d ∧ nt ≤ ct ∧ nt ≤ tokMax ∧ p.wf := by
  obtain ⟨_, _, _, _, h⟩ := r.elem
  obtain ⟨g, off, x, xs, rfl, _, _, hc, hx⟩ := h k hk
  obtain ⟨p, At, nt, ct, rfl, hs, h1, h2, h3⟩ := pk_open hx
  exact ⟨g, off, p, At, nt, ct, rfl, hc 0 _ rfl, hc 1 _ rfl, hc 2 _ rfl, hc 3 _ rfl, hc 4 _ rfl, hs, h1, h2, h3⟩
theorem eq_addr (a b c d : Int) (w : World) : (binOp .eql 29 (.agg #[.int .i64 a, .int .i64 b]) (.agg #[.int .i64 c, .int .i64 d])).run Try.prog w = .ok (.bool (decide (a = c ∧ b = d))) w := by
  have h := Try.underlying29
  by_cases e1 : a = c
  · subst e1
    by_cases e2 : b = d
    · subst e2
      go_simp
    · go_simp
  · go_simp
theorem neq_addr (a b c d : Int) (w : World) : (binOp .neq 29 (.agg #[.int .i64 a, .int .i64 b]) (.agg #[.int .i64 c, .int .i64 d])).run Try.prog w = .ok (.bool (!decide (a = c ∧ b = d))) w := by
  have h := Try.underlying29
  by_cases e1 : a = c
  · subst e1
    by_cases e2 : b = d
    · subst e2
      go_simp
    · go_simp
  · go_simp
/-- Is a packet one between the two places? -/
def apB (p : Pk) (as_ an bs bn : Int) : Bool := !decide (as_ = bs ∧ an = bn) && (decide (p.fs = as_ ∧ p.fn = an) && decide (p.ts = bs ∧ p.tn = bn) || decide (p.fs = bs ∧ p.fn = bn) && decide (p.ts = as_ ∧ p.tn = an))
theorem cut_ap (p : Pk) (as_ an bs bn : Int) : partC (fun _ => false) (pairK as_ an bs bn) (true && !decide (as_ = bs ∧ an = bn)) (pairK p.fs p.fn p.ts p.tn) = apB p as_ an bs bn := by
  unfold partC apB
  by_cases h : pairK p.fs p.fn p.ts p.tn = pairK as_ an bs bn
  · rw [if_pos h]
    have h2 := (pairK_iff _ _ _ _ _ _ _ _).1 h
    rcases h2 with ⟨e1, e2, e3, e4⟩ | ⟨e1, e2, e3, e4⟩
    · simp [e1, e2, e3, e4]
    · simp [e1, e2, e3, e4]
  · rw [if_neg h]
    have h2 := fun x => h ((pairK_iff _ _ _ _ _ _ _ _).2 x)
    have h3 : ¬ ((p.fs = as_ ∧ p.fn = an) ∧ (p.ts = bs ∧ p.tn = bn)) := fun x => h2 (.inl ⟨x.1.1, x.1.2, x.2.1, x.2.2⟩)
    have h4 : ¬ ((p.fs = bs ∧ p.fn = bn) ∧ (p.ts = as_ ∧ p.tn = an)) := fun x => h2 (.inr ⟨x.1.1, x.1.2, x.2.1, x.2.2⟩)
    have e3 : (decide (p.fs = as_ ∧ p.fn = an) && decide (p.ts = bs ∧ p.tn = bn)) = false := by
      rw [← Bool.decide_and]; exact decide_eq_false h3
    have e4 : (decide (p.fs = bs ∧ p.fn = bn) && decide (p.ts = as_ ∧ p.tn = an)) = false := by
      rw [← Bool.decide_and]; exact decide_eq_false h4
    rw [e3, e4]
    simp
theorem cut_self (as_ an bs bn : Int) : partC (fun _ => false) (pairK as_ an bs bn) (true && !decide (as_ = bs ∧ an = bn)) (pairK bs bn as_ an) = !decide (as_ = bs ∧ an = bn) := by
  unfold partC
  rw [if_pos (pairK_symm _ _ _ _), Bool.true_and]
theorem take_one (C : K4 → Bool) (p : Pk) (c : Cnt) : (C (pairK p.fs p.fn p.ts p.tn) = true → takeP C [p] 0 = zeroPk ∧ takeB C [p] 0 = false ∧ takeC C [p] 0 c = { c with x := c.x + 1 }) ∧ (C (pairK p.fs p.fn p.ts p.tn) = false → takeP C [p] 0 = p ∧ takeB C [p] 0 = true ∧ takeC C [p] 0 c = { c with t := c.t + 1 }) := by
  have h : lookP [p] 0 = some p := rfl
  unfold takeP takeB takeC
  rw [h]
  constructor
  · intro e
    simp only [e]
    exact ⟨rfl, rfl, rfl⟩
  · intro e
    simp only [e]
    exact ⟨rfl, rfl, rfl⟩
def apart_ (b0 b1 b2 b3 b4 : Bool) : Bool := b0 && (b1 && b2 || b3 && b4)
set_option maxHeartbeats 4000000 in
set_option maxRecDepth 100000 in
theorem netParts_walk (as_ an bs bn : Int) (A2 : Option Addr) (n2 k2 : Nat) (ls : List pkSh.T) (w : World) (wa1 : (Lit.int .i64 as_).wf = true) (wa2 : (Lit.int .i64 an).wf = true) (wb1 : (Lit.int .i64 bs).wf = true) (wb2 : (Lit.int .i64 bn).wf = true) (r0 : Rd w (.sl 56 pkSh) [.slice A2 n2 k2] ls) :
    Calls Try.prog 7 #[.agg #[.int .i64 as_, .int .i64 an], .agg #[.int .i64 bs, .int .i64 bn], .slice A2 n2 k2] w fun e w' => e = .returned (.bool true) ∧ Below w.heap.size w w' := by
  have hkw := Lib.hid (pairK_wf wa1 wa2 wb1 wb2)
  have hkw2 := Lib.hid (pairK_wf wb1 wb2 wa1 wa2)
  have WF := Lib.hid (And.intro wa1 (And.intro wa2 (And.intro wb1 wb2)))
  have hR := Lib.hid r0
  obtain ⟨_, hk2, hb2, hm2, _⟩ := r0.elem
  clear r0 wa1 wa2 wb1 wb2
  have B0 : Below w.heap.size w ((w.alloc (.cells #[.int .i64 as_, .int .i64 an] 29)).alloc (.cells #[.int .i64 bs, .int .i64 bn] 29)) := ((Below.refl _ w).alloc (Nat.le_refl _) _).alloc (by simp) _
  have k0 : ((w.alloc (.cells #[.int .i64 as_, .int .i64 an] 29)).alloc (.cells #[.int .i64 bs, .int .i64 bn] 29)).heap[w.heap.size]? = some (.cells #[.int .i64 as_, .int .i64 an] 29 (0, 0)) := (Below.heap_alloc _ _ _ (by simp)).trans (heap_alloc_new w _)
  have k1 : ((w.alloc (.cells #[.int .i64 as_, .int .i64 an] 29)).alloc (.cells #[.int .i64 bs, .int .i64 bn] 29)).heap[w.heap.size + 1]? = some (.cells #[.int .i64 bs, .int .i64 bn] 29 (0, 0)) := by
    have := heap_alloc_new (w.alloc (.cells #[.int .i64 as_, .int .i64 an] 29)) (.cells #[.int .i64 bs, .int .i64 bn] 29)
    simpa using this
  have HA := Lib.hid (And.intro B0 (And.intro k0 k1))
  clear B0 k0 k1
  have hcase : 2000 < n2 ∨ n2 ≤ 2000 := by omega
  go_enter Try.func7, Try.ntmps7
  go_wp2_with fail
  refine (awake_any _).mono ?_
  rintro e w1 ⟨rfl, B1⟩
  obtain ⟨B0, k0, k1⟩ := HA.out
  have kk := And.intro ((B1.block w.heap.size (by simp; omega)).trans k0) ((B1.block (w.heap.size + 1) (by simp)).trans k1)
  have hz1 : w.heap.size + 1 < w1.heap.size := heap_lt kk.2
  have B01 := B0.trans (B1.mono (by simp; omega))
  have HX := Lib.hid (And.intro kk B01)
  clear B0 k0 k1 B1 kk B01 HA
  rcases hcase with hcase | hcase
  · have d1 : decide (2000 < n2) = true := by simpa using hcase
    go_wp2_with fail
    refine (awake_any _).mono ?_
    rintro e w2 ⟨rfl, B2⟩
    have HB2 := Lib.hid (HX.out.2.trans (B2.mono HX.out.2.size))
    clear B2
    go_wp2
    go_ret
    exact ⟨rfl, HB2.out⟩
  · have d1 : decide (2000 < n2) = false := by simp; omega
    go_wp2_with fail
    refine (newP w1).mono ?_
    rintro e w2 ⟨q, rfl, H2⟩
    have kk2 := And.intro ((H2.fr.block w.heap.size (by omega) (by omega)).trans HX.out.1.1) ((H2.fr.block (w.heap.size + 1) hz1 (by omega)).trans HX.out.1.2)
    have x0 := blk_cell (j := 0) kk2.1 rfl
    have x1 := blk_cell (j := 1) kk2.1 rfl
    have x2 := blk_cell (j := 0) kk2.2 rfl
    have x3 := blk_cell (j := 1) kk2.2 rfl
    have CP := Lib.hid (partP as_ an bs bn true H2 hkw.out (by unfold maxLen; omega))
    clear H2 kk2
    go_wp2_with fail
    refine CP.out.mono ?_
    rintro e w3 ⟨rfl, m3, hm3, H3⟩
    have HH3 := Lib.hid H3
    clear H3 CP x0 x1 x2 x3
    go_wp2
    go_loopw [8, 9] (fun s i wr => ∃ k lo : Nat, i = .int .i64 (k : Int) ∧ s = .int .i64 (lo : Int) ∧ k ≤ n2 ∧ lo ≤ k ∧ Hid (NetP (fun b => b < w1.heap.size) w1 wr q [] (partC (fun _ => false) (pairK as_ an bs bn) (true && !decide (as_ = bs ∧ an = bn))) ⟨(k : Int), (k : Int) - (lo : Int), (lo : Int)⟩ m3)) (fun _ i _ => n2 - (intOf i).toNat)
    case atStart => exact ⟨0, 0, rfl, rfl, Nat.zero_le _, Nat.zero_le _, HH3⟩
    case round =>
      obtain ⟨k, lo, rfl, rfl, hk, hlo, HL⟩ := hrel
      clear HH3
      by_cases hlt : k < n2
      · obtain ⟨g2, o2, p, At, nt, ct, rfl, c0, c1, c2, c3, c4, hst, hnc, hnt, hwf⟩ := pk_at hR.out hlt
        have BW := HX.out.2.trans ((HL.out.fr.toBelow).mono HX.out.2.size)
        have l0 := (BW.cell (World.block_lt_of_cell? w _ c0)).trans c0
        have l1 := (BW.cell (World.block_lt_of_cell? w _ c1)).trans c1
        have l2 := (BW.cell (World.block_lt_of_cell? w _ c2)).trans c2
        have l3 := (BW.cell (World.block_lt_of_cell? w _ c3)).trans c3
        have l4 := (BW.cell (World.block_lt_of_cell? w _ c4)).trans c4
        have CS := Lib.hid (show Calls Try.prog 11 #[.pointer (some ⟨q, 0, none⟩), .agg #[.int .i64 p.fs, .int .i64 p.fn, .int .i64 p.ts, .int .i64 p.tn, .slice At nt ct]] wr (fun e w' => e = .returned (.bool true) ∧ NetP (fun b => b < w1.heap.size) w1 w' q [p] (partC (fun _ => false) (pairK as_ an bs bn) (true && !decide (as_ = bs ∧ an = bn))) ⟨(k : Int) + 1, (k : Int) - (lo : Int), (lo : Int)⟩ m3) from sendP p At nt ct HL.out (by show (k : Int) < _; omega) hwf (Sl.below hst BW) hnc hnt)
        have HCW := Lib.hid (And.intro c0 (And.intro c1 (And.intro c2 (And.intro c3 (And.intro c4 hst)))))
        have i0 : (0 : Int) ≤ (k : Int) := by omega
        have i1 : (k : Int) < (n2 : Int) := by omega
        clear HL BW c0 c1 c2 c3 c4 hst
        go_wp2_with fail
        refine CS.out.mono ?_
        rintro e w4 ⟨rfl, H4⟩
        have HH4 := Lib.hid H4
        have BW := HX.out.2.trans ((H4.fr.toBelow).mono HX.out.2.size)
        have kk4 := And.intro ((H4.fr.block w.heap.size (by omega) (by omega)).trans HX.out.1.1) ((H4.fr.block (w.heap.size + 1) hz1 (by omega)).trans HX.out.1.2)
        clear H4 CS l0 l1 l2 l3 l4
        obtain ⟨c0, c1, c2, c3, c4, hst⟩ := HCW.out
        have l0 := (BW.cell (World.block_lt_of_cell? w _ c0)).trans c0
        have l1 := (BW.cell (World.block_lt_of_cell? w _ c1)).trans c1
        have l2 := (BW.cell (World.block_lt_of_cell? w _ c2)).trans c2
        have l3 := (BW.cell (World.block_lt_of_cell? w _ c3)).trans c3
        have x0 := blk_cell (j := 0) kk4.1 rfl
        have x1 := blk_cell (j := 1) kk4.1 rfl
        have x2 := blk_cell (j := 0) kk4.2 rfl
        have x3 := blk_cell (j := 1) kk4.2 rfl
        clear kk4 BW c0 c1 c2 c3 c4 hst
        go_upto_region 11 with fail
        go_cut [10] (fun s wx => s = .bool (apB p as_ an bs bn) ∧ Hid (NetP (fun b => b < w1.heap.size) w1 wx q [p] (partC (fun _ => false) (pairK as_ an bs bn) (true && !decide (as_ = bs ∧ an = bn))) ⟨(k : Int) + 1, (k : Int) - (lo : Int), (lo : Int)⟩ m3))
        case first =>
          obtain ⟨b0, h0⟩ : ∃ b0, (!decide (as_ = bs ∧ an = bn)) = b0 := ⟨_, rfl⟩
          obtain ⟨b1, h1⟩ : ∃ b1, decide (p.fs = as_ ∧ p.fn = an) = b1 := ⟨_, rfl⟩
          obtain ⟨b2, h2⟩ : ∃ b2, decide (p.ts = bs ∧ p.tn = bn) = b2 := ⟨_, rfl⟩
          obtain ⟨b3, h3⟩ : ∃ b3, decide (p.fs = bs ∧ p.fn = bn) = b3 := ⟨_, rfl⟩
          obtain ⟨b4, h4⟩ : ∃ b4, decide (p.ts = as_ ∧ p.tn = an) = b4 := ⟨_, rfl⟩
          have hap : apB p as_ an bs bn = apart_ b0 b1 b2 b3 b4 := by unfold apB apart_; rw [h0, h1, h2, h3, h4]
          have q0 := neq_addr as_ an bs bn
          have q1 := eq_addr p.fs p.fn as_ an
          have q2 := eq_addr p.ts p.tn bs bn
          have q3 := eq_addr p.fs p.fn bs bn
          have q4 := eq_addr p.ts p.tn as_ an
          rw [h0] at q0
          rw [h1] at q1
          rw [h2] at q2
          rw [h3] at q3
          rw [h4] at q4
          have HH4b := Lib.hid (fun nq => HH4.out.below (below_drewN (Below.refl _ w4) nq))
          have HAP := Lib.hid hap
          clear h0 h1 h2 h3 h4 hap HH4
          cases b0
          · go_quiet (fail)
            go_wp2_with fail
            go_meet
            case rel => exact ⟨by rw [HAP.out]; rfl, Lib.hid (HH4b.out _)⟩
          · cases b1
            · cases b3
              · go_quiet (fail)
                go_wp2_with fail
                go_meet
                case rel => exact ⟨by rw [HAP.out]; rfl, Lib.hid (HH4b.out _)⟩
              · cases b4
                · go_quiet (fail)
                  go_wp2_with fail
                  go_meet
                  case rel => exact ⟨by rw [HAP.out]; rfl, Lib.hid (HH4b.out _)⟩
                · go_quiet (fail)
                  go_wp2_with fail
                  go_meet
                  case rel => exact ⟨by rw [HAP.out]; rfl, Lib.hid (HH4b.out _)⟩
            · cases b2
              · cases b3
                · go_quiet (fail)
                  go_wp2_with fail
                  go_meet
                  case rel => exact ⟨by rw [HAP.out]; rfl, Lib.hid (HH4b.out _)⟩
                · cases b4
                  · go_quiet (fail)
                    go_wp2_with fail
                    go_meet
                    case rel => exact ⟨by rw [HAP.out]; rfl, Lib.hid (HH4b.out _)⟩
                  · go_quiet (fail)
                    go_wp2_with fail
                    go_meet
                    case rel => exact ⟨by rw [HAP.out]; rfl, Lib.hid (HH4b.out _)⟩
              · go_quiet (fail)
                go_wp2_with fail
                go_meet
                case rel => exact ⟨by rw [HAP.out]; rfl, Lib.hid (HH4b.out _)⟩
        case rest =>
          obtain ⟨rfl, H5⟩ := hcut
          obtain ⟨ap, hap⟩ : ∃ ap, apB p as_ an bs bn = ap := ⟨_, rfl⟩
          have hC := (cut_ap p as_ an bs bn).trans hap
          have CT := takePP 0 H5.out (by show (lo : Int) < _; omega) (by show (k : Int) - (lo : Int) < _; omega)
          have T := take_one (partC (fun _ => false) (pairK as_ an bs bn) (true && !decide (as_ = bs ∧ an = bn))) p ⟨(k : Int) + 1, (k : Int) - (lo : Int), (lo : Int)⟩
          have t4 : loseL [p] 0 = [] := rfl
          rw [hap]
          clear l0 l1 l2 l3 x0 x1 x2 x3 hap HH4
          cases ap
          · obtain ⟨t1, t2, t3⟩ := T.2 hC
            rw [t1, t2, t3, t4] at CT
            have HCT := Lib.hid CT
            clear T hC t1 t2 t3 t4 CT
            go_wp2_with fail
            refine HCT.out.mono ?_
            rintro e w5 ⟨A5, n5, c5, rfl, s5, hc5, hn5, o5, H6, -⟩
            have BB : Below w5.heap.size w5 (w5.alloc (.cells #[.int .i64 p.fs, .int .i64 p.fn, .int .i64 p.ts, .int .i64 p.tn, .slice A5 n5 c5] 32)) := (Below.refl _ _).alloc (Nat.le_refl _) _
            have H7 := H6.below BB
            have BW := HX.out.2.trans ((H7.fr.toBelow).mono HX.out.2.size)
            obtain ⟨c0, c1, c2, c3, c4, hst⟩ := HCW.out
            have kb : (w5.alloc (.cells #[.int .i64 p.fs, .int .i64 p.fn, .int .i64 p.ts, .int .i64 p.tn, .slice A5 n5 c5] 32)).heap[w5.heap.size]? = some (.cells #[.int .i64 p.fs, .int .i64 p.fn, .int .i64 p.ts, .int .i64 p.tn, .slice A5 n5 c5] 32 (0, 0)) := heap_alloc_new _ _
            have s6 : SlB (w5.alloc (.cells #[.int .i64 p.fs, .int .i64 p.fn, .int .i64 p.ts, .int .i64 p.tn, .slice A5 n5 c5] 32)) A5 n5 p.d := Sl.alloc s5 _
            have hst6 : SlB (w5.alloc (.cells #[.int .i64 p.fs, .int .i64 p.fn, .int .i64 p.ts, .int .i64 p.tn, .slice A5 n5 c5] 32)) At nt p.d := Sl.below hst BW
            have SX := Lib.hid (fun x : Ext (w5.alloc (.cells #[.int .i64 p.fs, .int .i64 p.fn, .int .i64 p.ts, .int .i64 p.tn, .slice A5 n5 c5] 32)) => same_true p A5 At n5 c5 nt ct x.w (Sl.below s6 x.below) (Sl.below hst6 x.below))
            have LX := Lib.hid (fun x : Ext (w5.alloc (.cells #[.int .i64 p.fs, .int .i64 p.fn, .int .i64 p.ts, .int .i64 p.tn, .slice A5 n5 c5] 32)) => show Calls Try.prog 14 #[.pointer (some ⟨q, 0, none⟩)] x.w (fun e w' => e = .returned (.int .i64 0) ∧ w' = x.w) from (lenP (H7.below x.below)).mono fun _ _ ⟨a, b⟩ => ⟨a, b.symm⟩)
            have y0 := Ext.cell (blk_cell (j := 0) kb rfl)
            have y1 := Ext.cell (blk_cell (j := 1) kb rfl)
            have y2 := Ext.cell (blk_cell (j := 2) kb rfl)
            have y3 := Ext.cell (blk_cell (j := 3) kb rfl)
            have y4 := Ext.cell (blk_cell (j := 4) kb rfl)
            have l0 := Ext.cell ((BW.cell (World.block_lt_of_cell? w _ c0)).trans c0)
            have l1 := Ext.cell ((BW.cell (World.block_lt_of_cell? w _ c1)).trans c1)
            have l2 := Ext.cell ((BW.cell (World.block_lt_of_cell? w _ c2)).trans c2)
            have l3 := Ext.cell ((BW.cell (World.block_lt_of_cell? w _ c3)).trans c3)
            have l4 := Ext.cell ((BW.cell (World.block_lt_of_cell? w _ c4)).trans c4)
            have HH7 := Lib.hid H7
            clear H6 H7 BB BW c0 c1 c2 c3 c4 hst kb s6 hst6 s5 o5 H5 HCT
            go_wp2_with fail
            generalize (w5.alloc (.cells #[.int .i64 p.fs, .int .i64 p.fn, .int .i64 p.ts, .int .i64 p.tn, .slice A5 n5 c5] 32)) = wz at *
            refine wp_region_ext (by kernel_rfl) (by kernel_rfl) ?_
            repeat (go_big_quiet_step (first
              | (go_at_call 13; exact Calls.ext_of (SX.out _))
              | (go_at_call 14; exact Calls.ext_same (LX.out _))))
            refine wpQuiet_nil ?_
            intro w6 hw6
            have b6 := ext_end hw6
            have H8 := HH7.out.below b6
            rw [show (⟨(k : Int) + 1, (k : Int) - (lo : Int) + 1, (lo : Int)⟩ : Cnt) = ⟨((k + 1 : Nat) : Int), ((k + 1 : Nat) : Int) - (lo : Int), (lo : Int)⟩ by rw [Cnt.mk.injEq]; exact ⟨by omega, by omega, by omega⟩] at H8
            have HH8 := Lib.hid H8
            clear hw6 b6 H8 y0 y1 y2 y3 y4 l0 l1 l2 l3 l4 SX LX HH7
            go_wp2
            go_roundw
            case rel => exact ⟨k + 1, lo, by go_num, rfl, by omega, by omega, HH8⟩
            case measure => simp [intOf]; omega
          · obtain ⟨t1, t2, t3⟩ := T.1 hC
            rw [t1, t2, t3, t4] at CT
            have HCT := Lib.hid (show Calls Try.prog 12 #[.pointer (some ⟨q, 0, none⟩), .int .i64 0] wc (fun e w' => ∃ A n c, e = .returned (.tuple #[.agg #[.int .i64 0, .int .i64 0, .int .i64 0, .int .i64 0, .slice A n c], .bool false]) ∧ NetP (fun b => b < w1.heap.size) w1 w' q [] (partC (fun _ => false) (pairK as_ an bs bn) (true && !decide (as_ = bs ∧ an = bn))) ⟨(k : Int) + 1, (k : Int) - (lo : Int), (lo : Int) + 1⟩ m3) from CT.mono fun e w' ⟨A, n, c, he, _, _, _, _, h6, _⟩ => ⟨A, n, c, he, h6⟩)
            clear T hC t1 t2 t3 t4 CT
            go_wp2_with fail
            refine HCT.out.mono ?_
            rintro e w5 ⟨A5, n5, c5, rfl, H6⟩
            have H7 := H6.below ((Below.refl _ w5).alloc (Nat.le_refl _) (.cells #[.int .i64 0, .int .i64 0, .int .i64 0, .int .i64 0, .slice A5 n5 c5] 32))
            have LX := Lib.hid (fun x : Ext (w5.alloc (.cells #[.int .i64 0, .int .i64 0, .int .i64 0, .int .i64 0, .slice A5 n5 c5] 32)) => show Calls Try.prog 14 #[.pointer (some ⟨q, 0, none⟩)] x.w (fun e w' => e = .returned (.int .i64 0) ∧ w' = x.w) from (lenP (H7.below x.below)).mono fun _ _ ⟨a, b⟩ => ⟨a, b.symm⟩)
            have HH7 := Lib.hid H7
            clear H6 H7 H5 HCT
            go_wp2_with fail
            generalize (w5.alloc (.cells #[.int .i64 0, .int .i64 0, .int .i64 0, .int .i64 0, .slice A5 n5 c5] 32)) = wz at *
            refine wp_region_ext (by kernel_rfl) (by kernel_rfl) ?_
            repeat (go_big_quiet_step (first
              | (go_at_call 14; exact Calls.ext_same (LX.out _))))
            refine wpQuiet_nil ?_
            intro w6 hw6
            have b6 := ext_end hw6
            have H8 := HH7.out.below b6
            rw [show (⟨(k : Int) + 1, (k : Int) - (lo : Int), (lo : Int) + 1⟩ : Cnt) = ⟨((k + 1 : Nat) : Int), ((k + 1 : Nat) : Int) - ((lo + 1 : Nat) : Int), ((lo + 1 : Nat) : Int)⟩ by rw [Cnt.mk.injEq]; exact ⟨by omega, by omega, by omega⟩] at H8
            have HH8 := Lib.hid H8
            clear hw6 b6 H8 LX HH7
            go_wp2
            go_roundw
            case rel => exact ⟨k + 1, lo + 1, by go_num, by go_num, by omega, by omega, HH8⟩
            case measure => simp [intOf]; omega
      · obtain rfl : k = n2 := by omega
        have CT := Lib.hid (tallyP HL.out)
        go_wp2_with fail
        refine CT.out.mono ?_
        rintro e w4 ⟨rfl, d, rfl⟩
        have H4 := HL.out.below (below_drewN (Below.refl _ wr) d)
        obtain ⟨b0, h0⟩ : ∃ b0, (!decide (as_ = bs ∧ an = bn)) = b0 := ⟨_, rfl⟩
        have q0 := neq_addr as_ an bs bn
        rw [h0] at q0
        have kk4 := And.intro ((H4.fr.block w.heap.size (by omega) (by omega)).trans HX.out.1.1) ((H4.fr.block (w.heap.size + 1) hz1 (by omega)).trans HX.out.1.2)
        have x0 := blk_cell (j := 0) kk4.1 rfl
        have x1 := blk_cell (j := 1) kk4.1 rfl
        have x2 := blk_cell (j := 0) kk4.2 rfl
        have x3 := blk_cell (j := 1) kk4.2 rfl
        have C4 := partedP bs bn as_ an H4 hkw2.out
        rw [cut_self, h0] at C4
        have HC4 := Lib.hid C4
        have HH4 := Lib.hid H4
        clear H4 kk4 C4 HL CT h0
        go_wp2_with fail
        refine HC4.out.mono ?_
        rintro e w5 ⟨rfl, b5⟩
        have H5 := HH4.out.below b5
        have kk5 := And.intro ((H5.fr.block w.heap.size (by omega) (by omega)).trans HX.out.1.1) ((H5.fr.block (w.heap.size + 1) hz1 (by omega)).trans HX.out.1.2)
        clear x0 x1 x2 x3
        have x0 := blk_cell (j := 0) kk5.1 rfl
        have x1 := blk_cell (j := 1) kk5.1 rfl
        have x2 := blk_cell (j := 0) kk5.2 rfl
        have x3 := blk_cell (j := 1) kk5.2 rfl
        have HC5 := Lib.hid (partP bs bn as_ an false H5 hkw2.out (by unfold maxLen; omega))
        clear H5 kk5 HH4 HC4 b5
        go_wp2_with fail
        refine HC5.out.mono ?_
        rintro e w6 ⟨rfl, m6, hm6, H6⟩
        have kk6 := And.intro ((H6.fr.block w.heap.size (by omega) (by omega)).trans HX.out.1.1) ((H6.fr.block (w.heap.size + 1) hz1 (by omega)).trans HX.out.1.2)
        clear x0 x1 x2 x3
        have x0 := blk_cell (j := 0) kk6.1 rfl
        have x1 := blk_cell (j := 1) kk6.1 rfl
        have x2 := blk_cell (j := 0) kk6.2 rfl
        have x3 := blk_cell (j := 1) kk6.2 rfl
        obtain ⟨p, hp⟩ : ∃ p : Pk, p = ⟨as_, an, bs, bn, []⟩ := ⟨_, rfl⟩
        have hCC : partC (partC (fun _ => false) (pairK as_ an bs bn) (true && !decide (as_ = bs ∧ an = bn))) (pairK bs bn as_ an) (false && !decide (bs = as_ ∧ bn = an)) (pairK as_ an bs bn) = false := by
          unfold partC
          rw [if_pos (pairK_symm _ _ _ _)]
          rfl
        generalize hC2 : partC (partC (fun _ => false) (pairK as_ an bs bn) (true && !decide (as_ = bs ∧ an = bn))) (pairK bs bn as_ an) (false && !decide (bs = as_ ∧ bn = an)) = C2 at *
        have C6 := sendP p none 0 0 H6 (by show ((k : Nat) : Int) < _; omega) (by subst hp; exact WF.out) (by subst hp; exact Sl.nil _ _ _) (Nat.le_refl _) (by rw [tokMax_eq]; exact Nat.zero_le _)
        have HC6 := Lib.hid (show Calls Try.prog 11 #[.pointer (some ⟨q, 0, none⟩), .agg #[.int .i64 as_, .int .i64 an, .int .i64 bs, .int .i64 bn, .slice none 0 0]] w6 (fun e w' => e = .returned (.bool true) ∧ NetP (fun b => b < w1.heap.size) w1 w' q [p] C2 ⟨(k : Int) + 1, (k : Int) - (lo : Int), (lo : Int)⟩ m6) from by subst hp; exact C6)
        clear H6 kk6 C6 HC5 hC2
        go_wp2_with fail
        refine HC6.out.mono ?_
        rintro e w7 ⟨rfl, H7⟩
        obtain ⟨t1, t2, t3⟩ := (take_one C2 p ⟨(k : Int) + 1, (k : Int) - (lo : Int), (lo : Int)⟩).2 (by subst hp; exact hCC)
        have C7 := takePP 0 H7 (by show (lo : Int) < _; omega) (by show (k : Int) - (lo : Int) < _; omega)
        rw [t1, t2, t3] at C7
        have HC7 := Lib.hid (show Calls Try.prog 12 #[.pointer (some ⟨q, 0, none⟩), .int .i64 0] w7 (fun e w' => ∃ A n c, e = .returned (.tuple #[.agg #[.int .i64 p.fs, .int .i64 p.fn, .int .i64 p.ts, .int .i64 p.tn, .slice A n c], .bool true]) ∧ NetP (fun b => b < w1.heap.size) w1 w' q (loseL [p] 0) C2 ⟨(k : Int) + 1, (k : Int) - (lo : Int) + 1, (lo : Int)⟩ m6) from C7.mono fun e w' ⟨A, n, c, he, _, _, _, _, h6, _⟩ => ⟨A, n, c, he, h6⟩)
        clear H7 C7 t1 t2 t3 HC6 x0 x1 x2 x3 hp
        go_wp2_with fail
        refine HC7.out.mono ?_
        rintro e w8 ⟨A8, n8, c8, rfl, H8⟩
        have H9 := H8.below ((Below.refl _ w8).alloc (Nat.le_refl _) (.cells #[.int .i64 p.fs, .int .i64 p.fn, .int .i64 p.ts, .int .i64 p.tn, .slice A8 n8 c8] 32))
        have kk9 := And.intro ((H9.fr.block w.heap.size (by omega) (by omega)).trans HX.out.1.1) ((H9.fr.block (w.heap.size + 1) hz1 (by omega)).trans HX.out.1.2)
        have x0 := blk_cell (j := 0) kk9.1 rfl
        have x1 := blk_cell (j := 1) kk9.1 rfl
        have x2 := blk_cell (j := 0) kk9.2 rfl
        have x3 := blk_cell (j := 1) kk9.2 rfl
        have C9 := partedP as_ an bs bn H9 hkw.out
        rw [hCC] at C9
        have HC9 := Lib.hid C9
        have HF := Lib.hid (HX.out.2.trans (H9.fr.toBelow.mono HX.out.2.size))
        clear H8 H9 kk9 C9 hCC HC7
        go_wp2_with fail
        refine HC9.out.mono ?_
        rintro e w10 ⟨rfl, b10⟩
        have HF2 := Lib.hid (HF.out.trans (b10.mono HF.out.size))
        clear b10 HC9 HF
        go_wp2
        go_ret
        exact ⟨rfl, HF2.out⟩
abbrev adSh : Sh := .pair (.int .i64) (.int .i64)
theorem ad_open {w : World} {cs : List Value} {x : adSh.T} (h : Rd w adSh cs x) : ∃ a b : Int, cs = [.int .i64 a, .int .i64 b] ∧ (Lit.int .i64 a).wf = true ∧ (Lit.int .i64 b).wf = true := by
  obtain ⟨a, b⟩ := x
  obtain ⟨c1, c2, rfl, ⟨rfl, w1⟩, rfl, w2⟩ := h
  exact ⟨a, b, rfl, w1, w2⟩
theorem netParts_walk2 (csA : List Value) (xA : adSh.T) (csB : List Value) (xB : adSh.T) (A2 : Option Addr) (n2 k2 : Nat) (ls : List pkSh.T) (w : World) (rA : Rd w adSh csA xA) (rB : Rd w adSh csB xB) (r0 : Rd w (.sl 56 pkSh) [.slice A2 n2 k2] ls) :
    Calls Try.prog 7 #[.agg csA.toArray, .agg csB.toArray, .slice A2 n2 k2] w fun e w' => e = .returned (.bool true) ∧ Below w.heap.size w w' := by
  obtain ⟨a, b, rfl, h1, h2⟩ := ad_open rA
  obtain ⟨c, d, rfl, h3, h4⟩ := ad_open rB
  exact netParts_walk a b c d A2 n2 k2 ls w h1 h2 h3 h4 r0
end Go.Proofs.Ytcdbpimpmhfkhaa
