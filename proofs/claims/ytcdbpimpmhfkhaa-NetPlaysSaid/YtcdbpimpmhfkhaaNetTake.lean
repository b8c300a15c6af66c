/-
  The network: Take.
-/
import Derived.Test.YtcdbpimpmhfkhaaNetDo
namespace Go.Proofs.Ytcdbpimpmhfkhaa
open Go.RowKit
set_option linter.unusedVariables false

def takeP (C : K4 → Bool) (l : List Pk) (i : Int) : Pk := match lookP l i with
  | none => zeroPk
  | some p => if C (pairK p.fs p.fn p.ts p.tn) then zeroPk else p
def takeB (C : K4 → Bool) (l : List Pk) (i : Int) : Bool := match lookP l i with
  | none => false
  | some p => !C (pairK p.fs p.fn p.ts p.tn)
def takeC (C : K4 → Bool) (l : List Pk) (i : Int) (c : Cnt) : Cnt := match lookP l i with
  | none => c
  | some p => if C (pairK p.fs p.fn p.ts p.tn) then { c with x := c.x + 1 } else { c with t := c.t + 1 }
/-- What Take leaves. -/
def TakeAns (w : World) (fp : Nat → Prop) (G : NGeo) (l : List Pk) (C : K4 → Bool) (c : Cnt) (m : Nat) (p : Pk) (b : Bool) (e : Ending) (w' : World) : Prop :=
  ∃ A n k, e = .returned (.tuple #[.agg #[.int .i64 p.fs, .int .i64 p.fn, .int .i64 p.ts, .int .i64 p.tn, .slice A n k], .bool b]) ∧ SlB w' A n p.d ∧ n ≤ k ∧ n ≤ tokMax ∧ w'.ownsRow w.heap.size 5 1 (.slice A n k) n (bsV p.d) ∧ NetG w' fp G l C c m ∧ Fr fp w w'
section
variable {w w' : World} {fp fp' : Nat → Prop} {G : NGeo} {l : List Pk} {C : K4 → Bool} {c : Cnt} {m : Nat}
theorem set5_net (h : NetG w fp G l C c m) {g : Nat} (hg : ¬ fp g) {v0 v1 v2 v3 v4 : Value} : NetG (set5 w g v0 v1 v2 v3 v4) fp G l C c m :=
  h.kept (set5_fr.kept fun i hi e => hg (by rw [← e]; exact hi)) set5_fr.size
set_option maxHeartbeats 4000000 in
theorem take_any (i : Int) (h : NetG w fp G l C c m) (hx : c.x < 8000000000000000000) (hx2 : c.t < 8000000000000000000) :
    Calls Try.prog 12 #[.pointer (some ⟨G.p, 0, none⟩), .int .i64 i] w (TakeAns w fp G (loseL l i) C (takeC C l i c) m (takeP C l i) (takeB C l i)) := by
  have h1 := h.below ((Below.refl _ w).alloc (Nat.le_refl _) (.cells #[.int .i64 0, .int .i64 0, .int .i64 0, .int .i64 0, .slice none 0 0] 32))
  have kk : (w.alloc (.cells #[.int .i64 0, .int .i64 0, .int .i64 0, .int .i64 0, .slice none 0 0] 32)).heap[w.heap.size]? = some (.cells #[.int .i64 0, .int .i64 0, .int .i64 0, .int .i64 0, .slice none 0 0] 32 (0, 0)) := heap_alloc_new w _
  have hr : ¬ fp w.heap.size := fun hh => by have := h.lt _ hh; omega
  have CL := look_any i h1
  rcases look_cases l i with ⟨hl, hi⟩ | ⟨k, p, rfl, hk, hp, hl⟩
  · unfold loseL takeC takeP takeB
    rw [hl] at CL ⊢
    have HCL := Lib.hid (show Calls Try.prog 15 #[.pointer (some ⟨G.p, 0, none⟩), .int .i64 i] (w.alloc (.cells #[.int .i64 0, .int .i64 0, .int .i64 0, .int .i64 0, .slice none 0 0] 32)) (fun e w' => ∃ A n k, e = .returned (.tuple #[.agg #[.int .i64 0, .int .i64 0, .int .i64 0, .int .i64 0, .slice A n k], .bool false]) ∧ Below (w.alloc (.cells #[.int .i64 0, .int .i64 0, .int .i64 0, .int .i64 0, .slice none 0 0] 32)).heap.size (w.alloc (.cells #[.int .i64 0, .int .i64 0, .int .i64 0, .int .i64 0, .slice none 0 0] 32)) w') from CL.mono fun e w' ⟨A, n, k, he, _, _, _, _, b⟩ => ⟨A, n, k, he, b⟩)
    have HK := Lib.hid (And.intro kk (And.intro h hr))
    have HZ := Lib.hid h.lt
    clear h h1 hi hl kk CL hx hx2
    go_enter Try.func12, Try.ntmps12
    go_wp2_with fail
    refine HCL.out.mono ?_
    rintro e w2 ⟨A, n, kc, rfl, b2⟩
    have k2 := (b2.block w.heap.size (by simp)).trans HK.out.1
    have k3 := (Below.heap_alloc w2 (.cells #[.int .i64 0, .int .i64 0, .int .i64 0, .int .i64 0, .slice A n kc] 32) w.heap.size (by have := b2.size; simp at this; omega)).trans k2
    have y0 := blk_cell (j := 0) k3 rfl
    have y1 := blk_cell (j := 1) k3 rfl
    have y2 := blk_cell (j := 2) k3 rfl
    have y3 := blk_cell (j := 3) k3 rfl
    have y4 := blk_cell (j := 4) k3 rfl
    have g0 := blk_free k3 0
    have g1 := blk_free k3 1
    have g2 := blk_free k3 2
    have g3 := blk_free k3 3
    have g4 := blk_free k3 4
    have HB := Lib.hid (And.intro b2 k3)
    clear b2 k2 k3 HCL
    go_wp2
    refine bodyPost_ret (results_cell_row_tmp rfl _ _ w.heap.size _ #[.int .i64 0, .int .i64 0, .int .i64 0, .int .i64 0, .slice none 0 0] _ _ rfl (set5_heap HB.out.2) Try.underlying32 rfl Try.infoPkSize) rfl ?_
    have hz : w.heap.size < w2.heap.size := by have := HB.out.1.size; simp at this; omega
    have b3 : Below w.heap.size w (w2.alloc (.cells #[.int .i64 0, .int .i64 0, .int .i64 0, .int .i64 0, .slice A n kc] 32)) := (((Below.refl _ w).alloc (Nat.le_refl _) _).trans (HB.out.1.mono (by simp))).alloc (by omega) _
    refine ⟨none, 0, 0, rfl, Sl.nil _ _ _, Nat.le_refl _, by rw [tokMax_eq]; exact Nat.zero_le _, World.ownsRow_nil _ _ _ _, set5_net (HK.out.2.1.below b3) HK.out.2.2, (Fr.of_below b3).trans set5_fr (fun i hi => .inr (by omega))⟩
  · unfold loseL takeC takeP takeB
    rw [hl] at CL ⊢
    simp only [Option.getD_some, Option.isSome_some] at CL ⊢
    obtain ⟨_, _, _, _, _, _, _, _, _, _, hwf, _, _⟩ := h.at_ hp
    have hkw := pairK_wf hwf.1 hwf.2.1 hwf.2.2.1 hwf.2.2.2
    have HCL := Lib.hid CL
    have HK := Lib.hid (And.intro kk (And.intro h (And.intro hr (And.intro hkw hl))))
    have hlt := h.lt
    have HLT := Lib.hid hlt
    have hk4 := h.len
    have hcn := h.cnt
    clear h h1 hl kk CL hwf hkw hlt
    cases hC : C (pairK p.fs p.fn p.ts p.tn)
    · simp only [Bool.false_eq_true, if_false, Bool.not_false]
      go_enter Try.func12, Try.ntmps12
      go_wp2_with fail
      refine HCL.out.mono ?_
      rintro e w2 ⟨A, n, kc, rfl, s2, hn, hn2, o2, b2⟩
      have hz2 : w.heap.size < w2.heap.size := by have := b2.size; simp at this; omega
      have k2 := (b2.block w.heap.size (by simp)).trans HK.out.1
      have B3 : Below w.heap.size w (w2.alloc (.cells #[.int .i64 p.fs, .int .i64 p.fn, .int .i64 p.ts, .int .i64 p.tn, .slice A n kc] 32)) := (((Below.refl _ w).alloc (Nat.le_refl _) _).trans (b2.mono (by simp))).alloc (by omega) _
      have h3 := HK.out.2.1.below B3
      have k3 := (Below.heap_alloc w2 (.cells #[.int .i64 p.fs, .int .i64 p.fn, .int .i64 p.ts, .int .i64 p.tn, .slice A n kc] 32) w.heap.size hz2).trans k2
      have kb : (w2.alloc (.cells #[.int .i64 p.fs, .int .i64 p.fn, .int .i64 p.ts, .int .i64 p.tn, .slice A n kc] 32)).heap[w2.heap.size]? = some (.cells #[.int .i64 p.fs, .int .i64 p.fn, .int .i64 p.ts, .int .i64 p.tn, .slice A n kc] 32 (0, 0)) := heap_alloc_new _ _
      have x0 := blk_cell (j := 0) kb rfl
      have x1 := blk_cell (j := 1) kb rfl
      have x2 := blk_cell (j := 2) kb rfl
      have x3 := blk_cell (j := 3) kb rfl
      have CP0 := parted_any p.fs p.fn p.ts p.tn h3 HK.out.2.2.2.1
      rw [hC] at CP0
      have CP := Lib.hid CP0
      clear CP0
      have HB := Lib.hid (And.intro B3 (And.intro h3 (And.intro k3 (And.intro kb (And.intro s2 o2)))))
      clear s2 o2 b2 k2 k3 kb B3 h3 HCL
      go_wp2_with fail
      refine CP.out.mono ?_
      rintro e w4 ⟨rfl, b4⟩
      obtain ⟨B3, h3, k3, kb, s2, o2⟩ := HB.out
      have hz4 : w2.heap.size < w4.heap.size := by have := b4.size; simp at this; omega
      have h4 := h3.below b4
      have k4 := (b4.block w.heap.size (by simp; omega)).trans k3
      have kb4 := (b4.block w2.heap.size (by simp)).trans kb
      have B4 := B3.trans (b4.mono (by simp; omega))
      have nb : ∀ i, fp i → i < w.heap.size := HLT.out
      have HB4 := Lib.hid b4
      clear CP x0 x1 x2 x3 b4 h3 k3 kb B3
      obtain ⟨g, kc2, cur, e1, hg, hcs, hk1, hk2, hone, hfg, hrest⟩ := h4.cut_ hk
      have CD := Lib.hid (delete_any g kc2 l.length k cur w4 hg hcs hk hk1 hk2 hone)
      have HR := Lib.hid hrest
      have c0 := blk_cell (j := 0) e1 rfl
      have hw1 : IntKind.i64.wrap ((k : Int) + 1) = (k : Int) + 1 := IntWalk.i64_in _ (by omega)
      have HS := Lib.hid (And.intro k4 (And.intro kb4 (And.intro s2 (And.intro o2 B4))))
      clear h4 e1 hg hrest hone k4 kb4 s2 o2 B4 HB hcs
      go_wp2_with fail
      refine CD.out.mono ?_
      rintro e w5 ⟨rfl, hcur, F1⟩
      have hr5 := HR.out w5 hcur F1
      have t0 := blk_cell (j := 0) hr5.1 rfl
      have f0 := blk_free hr5.1 0
      have hp3 := heap_setCell_same w5 G.p 0 _ _ (.slice (some ⟨g, 0, none⟩) (l.length - 1) kc2) hr5.1
      have CA := Lib.hid (addI_any G.p 3 c.t _ (blk_cell hp3 rfl) (blk_free hp3 3) hcn.2.1 (by omega))
      have HR2 := Lib.hid hr5
      have HP3 := Lib.hid hp3
      clear hr5 hcur F1 hp3 CD c0
      go_wp2_with fail
      refine CA.out.mono ?_
      rintro e w6 ⟨rfl, hw6⟩
      have hp4 := heap_setCell_same _ G.p 3 _ _ (.int .i64 (c.t + 1)) HP3.out
      obtain ⟨q1, q2⟩ := HR2.out.2 { c with t := c.t + 1 } w6 ⟨hcn.1, by show 0 ≤ c.t + 1; omega, hcn.2.2⟩ (by rw [hw6]; exact hp4) (by rw [hw6]; exact (Fr.set _ ⟨G.p, 0, none⟩ _).trans (Fr.set _ ⟨G.p, 3, none⟩ _) (fun i hi => .inl hi))
      obtain ⟨k4, kb4, s2, o2, B4⟩ := HS.out
      have k6 := (q2.block w.heap.size (by omega) (fun hh => by have := nb _ hh; omega)).trans k4
      have kb6 := (q2.block w2.heap.size hz4 (fun hh => by have := nb _ hh; omega)).trans kb4
      have x0 := blk_cell (j := 0) kb6 rfl
      have x1 := blk_cell (j := 1) kb6 rfl
      have x2 := blk_cell (j := 2) kb6 rfl
      have x3 := blk_cell (j := 3) kb6 rfl
      have x4 := blk_cell (j := 4) kb6 rfl
      have y0 := blk_cell (j := 0) k6 rfl
      have y1 := blk_cell (j := 1) k6 rfl
      have y2 := blk_cell (j := 2) k6 rfl
      have y3 := blk_cell (j := 3) k6 rfl
      have y4 := blk_cell (j := 4) k6 rfl
      have g0 := blk_free k6 0
      have g1 := blk_free k6 1
      have g2 := blk_free k6 2
      have g3 := blk_free k6 3
      have g4 := blk_free k6 4
      have HE := Lib.hid (And.intro q1 (And.intro q2 (And.intro k6 (And.intro s2 (And.intro o2 B4)))))
      clear q1 q2 k6 kb6 s2 o2 B4 hp4 hw6 k4 kb4 HR2 HP3 CA t0 f0
      go_wp2
      refine bodyPost_ret (results_cell_row_tmp rfl _ _ w.heap.size _ #[.int .i64 p.fs, .int .i64 p.fn, .int .i64 p.ts, .int .i64 p.tn, .slice A n kc] _ _ rfl (set5_heap HE.out.2.2.1) Try.underlying32 rfl Try.infoPkSize) rfl ?_
      obtain ⟨q1, q2, k6, s2, o2, B4⟩ := HE.out
      have Kk : Kept (fun b => w.heap.size < b ∧ b < w2.heap.size) w2 w4 := (Kept.alloc _ w2 _).trans (Kept.below HB4.out)
      have K2 := (Kk.trans (q2.kept fun i hi hh => by have := nb _ hh; omega)).trans ((set5_fr (w := w6) (g := w.heap.size) (v0 := .int .i64 p.fs) (v1 := .int .i64 p.fn) (v2 := .int .i64 p.ts) (v3 := .int .i64 p.tn) (v4 := .slice A n kc)).kept fun i hi hh => by omega)
      have o3 := own_keep o2 (fun g hg => by have := o2.lt g hg; simp at this; omega) K2
      exact ⟨A, n, kc, rfl, Sl.of_own o3, hn, hn2, own_lower o3 (by simp), set5_net (by simpa using q1) HK.out.2.2.1, ((Fr.of_below B4).trans q2 (fun i hi => .inl hi)).trans set5_fr (fun i hi => .inr (by omega))⟩
    · simp only [if_true, Bool.not_true]
      go_enter Try.func12, Try.ntmps12
      go_wp2_with fail
      refine HCL.out.mono ?_
      rintro e w2 ⟨A, n, kc, rfl, s2, hn, hn2, o2, b2⟩
      have hz2 : w.heap.size < w2.heap.size := by have := b2.size; simp at this; omega
      have k2 := (b2.block w.heap.size (by simp)).trans HK.out.1
      have B3 : Below w.heap.size w (w2.alloc (.cells #[.int .i64 p.fs, .int .i64 p.fn, .int .i64 p.ts, .int .i64 p.tn, .slice A n kc] 32)) := (((Below.refl _ w).alloc (Nat.le_refl _) _).trans (b2.mono (by simp))).alloc (by omega) _
      have h3 := HK.out.2.1.below B3
      have k3 := (Below.heap_alloc w2 (.cells #[.int .i64 p.fs, .int .i64 p.fn, .int .i64 p.ts, .int .i64 p.tn, .slice A n kc] 32) w.heap.size hz2).trans k2
      have kb : (w2.alloc (.cells #[.int .i64 p.fs, .int .i64 p.fn, .int .i64 p.ts, .int .i64 p.tn, .slice A n kc] 32)).heap[w2.heap.size]? = some (.cells #[.int .i64 p.fs, .int .i64 p.fn, .int .i64 p.ts, .int .i64 p.tn, .slice A n kc] 32 (0, 0)) := heap_alloc_new _ _
      have x0 := blk_cell (j := 0) kb rfl
      have x1 := blk_cell (j := 1) kb rfl
      have x2 := blk_cell (j := 2) kb rfl
      have x3 := blk_cell (j := 3) kb rfl
      have CP0 := parted_any p.fs p.fn p.ts p.tn h3 HK.out.2.2.2.1
      rw [hC] at CP0
      have CP := Lib.hid CP0
      clear CP0
      have HB := Lib.hid (And.intro B3 (And.intro h3 (And.intro k3 (And.intro kb (And.intro s2 o2)))))
      clear s2 o2 b2 k2 k3 kb B3 h3 HCL
      go_wp2_with fail
      refine CP.out.mono ?_
      rintro e w4 ⟨rfl, b4⟩
      obtain ⟨B3, h3, k3, kb, s2, o2⟩ := HB.out
      have hz4 : w2.heap.size < w4.heap.size := by have := b4.size; simp at this; omega
      have h4 := h3.below b4
      have k4 := (b4.block w.heap.size (by simp; omega)).trans k3
      have kb4 := (b4.block w2.heap.size (by simp)).trans kb
      have B4 := B3.trans (b4.mono (by simp; omega))
      have nb : ∀ i, fp i → i < w.heap.size := HLT.out
      have HB4 := Lib.hid b4
      clear CP x0 x1 x2 x3 b4 h3 k3 kb B3
      have CL2 := lose_any (k : Int) h4 hx
      unfold loseL loseC at CL2
      rw [HK.out.2.2.2.2] at CL2
      simp only [Option.isSome_some, if_true, Int.toNat_natCast] at CL2
      have HCL2 := Lib.hid CL2
      have HS := Lib.hid (And.intro k4 B4)
      clear CL2 h4 k4 kb4 s2 o2 B4 HB
      go_wp2_with fail
      refine HCL2.out.mono ?_
      rintro e w5 ⟨rfl, q1, q2⟩
      have k5 := (q2.block w.heap.size (by omega) (fun hh => by have := nb _ hh; omega)).trans HS.out.1
      have y0 := blk_cell (j := 0) k5 rfl
      have y1 := blk_cell (j := 1) k5 rfl
      have y2 := blk_cell (j := 2) k5 rfl
      have y3 := blk_cell (j := 3) k5 rfl
      have y4 := blk_cell (j := 4) k5 rfl
      have g0 := blk_free k5 0
      have g1 := blk_free k5 1
      have g2 := blk_free k5 2
      have g3 := blk_free k5 3
      have g4 := blk_free k5 4
      have HE := Lib.hid (And.intro q1 (And.intro q2 k5))
      clear q1 q2 k5 HCL2
      go_wp2
      refine bodyPost_ret (results_cell_row_tmp rfl _ _ w.heap.size _ #[.int .i64 0, .int .i64 0, .int .i64 0, .int .i64 0, .slice none 0 0] _ _ rfl (set5_heap HE.out.2.2) Try.underlying32 rfl Try.infoPkSize) rfl ?_
      obtain ⟨q1, q2, k5⟩ := HE.out
      exact ⟨none, 0, 0, rfl, Sl.nil _ _ _, Nat.le_refl _, by rw [tokMax_eq]; exact Nat.zero_le _, World.ownsRow_nil _ _ _ _, set5_net (by simpa using q1) HK.out.2.2.1, ((Fr.of_below HS.out.2).trans q2 (fun i hi => .inl hi)).trans set5_fr (fun i hi => .inr (by omega))⟩
end
end Go.Proofs.Ytcdbpimpmhfkhaa
