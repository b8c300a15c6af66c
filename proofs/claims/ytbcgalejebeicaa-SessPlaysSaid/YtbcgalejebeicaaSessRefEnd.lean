/-
  The document's sessions: End.
-/
import Derived.Test.YtbcgalejebeicaaSessRefBegin
import Derived.Test.YtbcgalejebeicaaStepAppend
import Derived.IntWalk
namespace Go.Proofs.Ytbcgalejebeicaa
open Go.RowKit
set_option linter.unusedVariables false

section
variable {w w' : World} {fp fp' : Nat → Prop} {p : Nat} {sites : Int} {l : List Ses}
theorem RefG.mono (h : RefG w fp p sites l) (hs : ∀ b, fp b → fp' b) (hlt : ∀ b, fp' b → b < w.heap.size) : RefG w fp' p sites l := by
  obtain ⟨lv, rows, h1, h2, h3, h4, h5⟩ := h.ex
  exact ⟨hs _ h.inp, ⟨lv, rows, h1, h2, fun g hg => hs g (h3 g hg), h4, fun y hy => ⟨(h5 y hy).1.mono (fun b _ hb => hs b hb), (h5 y hy).2⟩⟩, h.asks, hlt⟩
/-- The list's row is no row of bytes. -/
theorem RefG.row_tag (h : RefG w fp p sites l) {g off c n : Nat} (hlv : w.cell? ⟨p, 1, none⟩ = some (.slice (some ⟨g, off, none⟩) n c)) : ∃ cs, w.heap[g]? = some (.cells cs 58 (0, 0)) ∧ fp g := by
  obtain ⟨lv, rows, h1, h2, h3, _⟩ := h.ex
  have hl := blk_cell (j := 1) h1 rfl
  rw [hlv] at hl
  injection hl with hl
  simp only [List.getElem_toArray, List.getElem_cons_succ, List.getElem_cons_zero] at hl
  subst hl
  obtain ⟨cs', hcs'⟩ := own_tag h2 rfl
  exact ⟨cs', hcs', h3 g rfl⟩
set_option maxHeartbeats 2000000 in
set_option maxRecDepth 100000 in
theorem refEnd_any (op : Int) (At : Option Addr) (nt ct : Nat) (tok : List UInt8) (h : RefG w fp p sites l) (ht : SlB w At nt tok) (hnt : nt ≤ 140737488351232) (hct : nt ≤ ct) (hta : ∀ b off s, 0 < nt → At = some ⟨b, off, s⟩ → ¬ fp b) :
    Calls Try.prog 16 #[.pointer (some ⟨p, 0, none⟩), .int .i64 op, .slice At nt ct] w (RefTo w fp p sites (endL l op tok) (.tuple #[.int .i64 (findS l op : Int), .bool (decide (0 < findS l op))])) := by
  obtain ⟨i0, hi, hz0, hz1, hz2⟩ := info_parts Try.infoByte
  have htl := SlB.len ht
  obtain ⟨k, hf⟩ : ∃ k, findS l op = k := ⟨_, rfl⟩
  have C0 := refFind_any op h
  rw [hf] at C0
  have C := Lib.hid C0
  clear C0
  rcases Nat.eq_zero_or_pos k with rfl | hk
  · have HE := Lib.hid (show RefTo w fp p sites (endL l op tok) (.tuple #[.int .i64 (findS l op : Int), .bool (decide (0 < findS l op))]) (.returned (.tuple #[.int .i64 0, .bool false])) w from ⟨by rw [hf]; rfl, by unfold endL; rw [hf]; exact ⟨fp, h, Fr.refl _ _, Grow.refl _ _⟩⟩)
    clear h ht hf
    go_enter Try.func16, Try.ntmps16
    go_wp2_with fail
    refine C.out.mono ?_
    rintro e w' ⟨rfl, rfl⟩
    go_wp2
    go_ret2
    exact HE.out
  · have hq : decide (0 < k) = true := by simpa using hk
    obtain ⟨_, x, hx, hxo⟩ := findS_some (k := k - 1) (by omega : findS l op = k - 1 + 1)
    obtain ⟨g, off, c', A', nn, cc, ho, q1, q2, q3, q4, qf, qt, qnc, qtl, hkl⟩ := h.at_ hx
    obtain ⟨_, _, -, hmx⟩ := h.len_
    unfold maxLen at hmx
    have hE2 : RefTo w fp p sites (endL l op tok) (.tuple #[.int .i64 (findS l op : Int), .bool (decide (0 < findS l op))]) = RefTo w fp p sites (l.set (k - 1) { x with op := 0, tok := if tok = [] then x.tok else tok }) (.tuple #[.int .i64 (k : Int), .bool true]) := by
      unfold endL
      rw [hf, hq]
      obtain ⟨j, rfl⟩ : ∃ j, k = j + 1 := ⟨k - 1, by omega⟩
      simp only [Nat.add_sub_cancel] at hx ⊢
      rw [hx]
    rw [hE2]
    obtain ⟨R1, F1⟩ := h.put (r := 2) (u := .int .i64 0) (y := { x with op := 0 }) (A := A') (n := nn) (cc := cc) hx ho q1 (by omega) (fun A0 n0 c0 h0 => by
      rw [q3] at h0
      injection h0 with h0
      injection h0 with e1 e2 e3
      subst e1 e2 e3
      exact ⟨rfl, .inl ⟨rfl, rfl, rfl, rfl⟩⟩) (h.asks.quiet hx (.inl rfl))
    have hx1 : (l.set (k - 1) { x with op := 0 })[k - 1]? = some { x with op := 0 } := List.getElem?_set_self (by omega)
    have qf2 := qf (off + (k - 1) * 3 + 2)
    by_cases hn0 : nt = 0
    · subst hn0
      obtain rfl : tok = [] := List.eq_nil_of_length_eq_zero htl
      have HR := Lib.hid R1
      have HF := Lib.hid F1
      clear ht hta htl hnt h hf hx hxo q2 q3 qf qt R1 F1 hx1 hE2 hq
      go_enter Try.func16, Try.ntmps16
      go_wp2_with fail
      refine C.out.mono ?_
      rintro e w' ⟨rfl, rfl⟩
      go_wp2
      go_ret2
      exact ⟨rfl, fp, HR.out, HF.out, Grow.refl _ _⟩
    · have hq1 : (0 : Int) < (nt : Int) := by omega
      have hte : tok ≠ [] := by intro e; subst e; simp at htl; omega
      obtain ⟨cs, hcs, hfg⟩ := h.row_tag q1
      have S1 : SlB (w.setCell ⟨g, off + (k - 1) * 3 + 2, none⟩ (.int .i64 0)) At nt tok := by
        refine Sl.keepB ht fun b o hn e => Below.heap_setCell _ _ _ _ fun e' => ?_
        exact hta b o none (by omega) e (by rw [e']; exact hfg)
      obtain ⟨g2, off2, c2, A2, n2, cc2, ho2, r1, r2, r3, r4, rf, rt, rnc, rtl, -⟩ := R1.at_ hx1
      simp only [List.length_set] at r1
      have eg : g2 = g ∧ off2 = off := by
        have ho' : off = 0 := ho
        have ho2' : off2 = 0 := ho2
        have e1 := (Kept.set (w := w) (fp := fun b => b ≠ g) (p := ⟨g, off + (k - 1) * 3 + 2, none⟩) (.int .i64 0) (fun hh => hh rfl)).cell (p := ⟨p, 1, none⟩) (v := .slice (some ⟨g, off, none⟩) l.length c') (by
          obtain ⟨lv, rows, h1, _⟩ := h.ex
          exact tag_ne h1 hcs (by decide)) q1
        rw [r1] at e1
        injection e1 with e1
        injection e1 with e1
        injection e1 with e1
        injection e1 with e1
        exact ⟨e1, by omega⟩
      obtain ⟨rfl, rfl⟩ := eg
      have HR := Lib.hid R1
      have HF := Lib.hid F1
      have HX := Lib.hid (And.intro hx hx1)
      have HS := Lib.hid S1
      have HH := Lib.hid h
      have rf1 := rf (off2 + (k - 1) * 3 + 1)
      have HRF := Lib.hid rf
      clear ht hta h hf hx hxo q2 q3 qf qt R1 F1 hx1 hE2 hq rf S1 rt r2 r4 hcs
      go_enter Try.func16, Try.ntmps16
      go_wp2_with fail
      refine C.out.mono ?_
      rintro e w' ⟨rfl, rfl⟩
      go_wp2
      have r1a := (World.cell?_alloc_lt (w.setCell ⟨g2, off2 + (k - 1) * 3 + 2, none⟩ (.int .i64 0)) (.cells #[] 5) ⟨p, 1, none⟩ (World.block_lt_of_cell? _ _ r1)).trans r1
      have d1 : IntKind.i64.wrap ((k : Int) - 1) = (k : Int) - 1 := IntWalk.i64_in _ (by omega)
      have d2 : (0 : Int) ≤ (k : Int) - 1 := by omega
      have d3 : (k : Int) - 1 < (l.length : Int) := by omega
      have d4 : ((k : Int) - 1).toNat = k - 1 := by omega
      have d5 : (1 : Int) ≤ (k : Int) := by omega
      go_region_law ((refine step_append_sl rfl (.tmp 31) (.tmp 32) 22 rfl w.heap.size 5 i0 (.int .u8 0) 1 1 Try.underlying22 hi hz0 hz1 hz2 rfl (by decide) (.slice (some ⟨w.heap.size, 0, none⟩) 0 0) 0 [] rfl (ownEmpty (w.setCell ⟨g2, off2 + (k - 1) * 3 + 2, none⟩ (.int .i64 0)).drew _ w.heap.size _ 1 (by simp) (Nat.le_refl _)) At nt ct (bsV tok) rfl (Sl.alloc (Sl.drew HS.out) _) (bsV_one _) (by unfold maxLen; omega) (by omega) (by simp) ?_; intro v3 w3 own3 g3 _; obtain ⟨A3, c3, rfl, hc3, -⟩ := own_slice own3; have B3 : Below (w.setCell ⟨g2, off2 + (k - 1) * 3 + 2, none⟩ (.int .i64 0)).heap.size (w.setCell ⟨g2, off2 + (k - 1) * 3 + 2, none⟩ (.int .i64 0)) w3 := ((Below.refl _ _).alloc (Nat.le_refl _) _).drew.grown g3 (by show _ ≤ (World.alloc _ _).heap.size; simp) (fun q hq => by simp [Value.ownBlock] at hq; subst hq; simp); have c31 := (B3.cell (World.block_lt_of_cell? _ _ r1)).trans r1; have c33 := (B3.cell (World.block_lt_of_cell? _ _ r3)).trans r3; have c3f := (B3.frozen (World.block_lt_of_cell? _ _ r3)).trans rf1; have HB3 := Lib.hid B3; have HO3 := Lib.hid own3; clear B3 own3 g3))
      all_goals clear d1 d2 d3 d4 d5 r1a
      all_goals go_wp2
      all_goals go_ret2
      all_goals
        have hz := HB3.out.size
        have hz1 : w.heap.size ≤ w3.heap.size := by simpa using hz
        have R3 : RefG w3 (fun b => fp b ∨ w.heap.size ≤ b ∧ b < w3.heap.size) p sites (l.set (k - 1) { x with op := 0 }) := (HR.out.below HB3.out).mono (fun b hb => .inl hb) (fun b hb => hb.elim (fun hb => Nat.lt_of_lt_of_le (HH.out.lt b hb) hz1) (fun hb => hb.2))
        have O3 : SlF w3 (fun b => fp b ∨ w.heap.size ≤ b ∧ b < w3.heap.size) 5 A3 nt 1 (bsV tok) := SlF.of_own (by have := HO3.out; simpa using this) (fun i hi hi2 => .inr ⟨hi, hi2⟩)
        obtain ⟨R4, F4⟩ := R3.put (r := 1) (u := .slice A3 nt c3) (y := { x with op := 0, tok := tok }) (A := A3) (n := nt) (cc := c3) HX.out.2 ho (by simpa using c31) (by omega) (fun A0 n0 c0 _ => ⟨rfl, .inr ⟨O3, by omega, by rw [tokMax_eq]; show tok.length ≤ _; omega⟩⟩) (by rw [List.set_set]; exact HH.out.asks.quiet HX.out.1 (.inl rfl))
        rw [List.set_set] at R4
        refine ⟨rfl, fun b => fp b ∨ w.heap.size ≤ b ∧ b < w3.heap.size, R4, ?_, fun i hi => hi.imp id And.left⟩
        exact (HF.out.trans (Fr.of_below HB3.out (fp := fun _ => False)) (fun _ h => h.elim)).trans F4 (fun i hi => hi.imp id And.left)
end
end Go.Proofs.Ytbcgalejebeicaa
