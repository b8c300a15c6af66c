/-
  Sessions: End.
-/
import Derived.Test.YtbcgalejebeicaaSessOpen
namespace Go.Proofs.Ytbcgalejebeicaa
open Go.RowKit
set_option linter.unusedVariables false

section
variable {w w' : World} {fp : Nat → Prop} {G : SGeo} {sites : Int} {l : List Ses} {m : Nat}
/-- End's end. -/
def EndAns (w : World) (fp : Nat → Prop) (G : SGeo) (sites : Int) (l : List Ses) (m : Nat) (op : Int) (tok : List UInt8) (e : Ending) (w' : World) : Prop :=
  e = .returned (.tuple #[.int .i64 (findS l op : Int), .bool (decide (0 < findS l op))]) ∧ SessTo w fp G sites (endL l op tok) m w'

/-- What End's first steps leave: the map without the ask. -/
theorem SessG.delete_ (h : SessG w fp G sites l m) {op : Int} (hw : (Lit.int .i64 op).wf = true) :
    ∃ w1, (Builtin.delete_ #[60, 2] 0 #[.map (some G.mb), .int .i64 op]).run Try.prog w = .ok (.tuple #[]) w1 ∧
      (∃ D, w1.ownsMap Try.prog 2 (plainElem Try.prog 3) G.mb m D ∧ ∀ l', (∀ op', findS l' op' = if op' = op then 0 else findS l op') → AskMap D l') ∧ w.grownBy w1 (some G.mb) := by
  obtain ⟨D, hD, hA⟩ := h.map
  obtain ⟨w1, r1, o1, t1⟩ := hD.drop Try.keyAsk Try.underlying60 (keyAsk op hw) 0
  exact ⟨w1, r1, ⟨_, o1, fun l' hl' => hA.del hl'⟩, t1.grown⟩

/-- Behind End's stores: the session has no ask, and a token of its own. -/
theorem SessG.end_ (h : SessG w fp G sites l m) {k g : Nat} {x : Ses} {op : Int} {A : Option Addr} {nn c : Nat} (hg : G.gs[k]? = some g) (hx : l[k]? = some x) (hf : findS l op = k + 1)
    {w1 w2 : World} {tok : List UInt8} (hb2 : w2.heap[g]? = some (.cells #[.int .i64 x.site, .slice A nn c, .int .i64 0] 67 (0, 0)))
    (hm1 : ∃ D, w1.ownsMap Try.prog 2 (plainElem Try.prog 3) G.mb m D ∧ ∀ l', (∀ op', findS l' op' = if op' = op then 0 else findS l op') → AskMap D l') (g1 : w.grownBy w1 (some G.mb))
    (hF : Fr (fun b => b = g) w1 w2) {fp' : Nat → Prop} (hs : ∀ b, fp b → fp' b) (hlt : ∀ b, fp' b → b < w2.heap.size) (htok : SlF w2 fp' 5 A nn 1 (bsV tok)) (htl : tok.length ≤ tokMax) (hnc : nn ≤ c) :
    SessG w2 fp' G sites (l.set k { x with op := 0, tok := tok }) m := by
  obtain ⟨A', n', c', h1, h2, _⟩ := h.ses k g x hg hx
  obtain ⟨D0, hD0, _⟩ := h.map
  have hne := map_ne h2 hD0
  have k1 : Kept (fun b => b ≠ G.mb) w w1 := Kept.grown g1 (fun b hb hh => hh (by injection hb with hb; exact hb.symm))
  have k2 : Kept (fun b => b ≠ g) w1 w2 := hF.kept fun b hb hh => hb hh
  obtain ⟨D, hD, hA⟩ := hm1
  exact h.turn (y := { x with op := 0, tok := tok }) hg hx hb2 htok htl (by show (Lit.int .i64 0).wf = true; decide) hnc ((k1.mono fun b hb => hb.2.2).trans (k2.mono fun b hb => hb.2.1))
    ⟨D, map_keep hD (fp := fun b => b ≠ g) hne.symm k2, hA _ (find_end h.asks hx hf rfl)⟩ (h.asks.quiet hx (.inl rfl)) hs hlt (Nat.le_trans g1.size hF.size)

set_option maxHeartbeats 2000000 in
theorem end_any (op : Int) (At : Option Addr) (nt ct : Nat) (tok : List UInt8) (h : SessG w fp G sites l m) (hw : (Lit.int .i64 op).wf = true) (ht : SlB w At nt tok) (hnt : nt ≤ 140737488351232) (hct : nt ≤ ct) (hta : ∀ b off s, 0 < nt → At = some ⟨b, off, s⟩ → ¬ fp b) :
    Calls Try.prog 10 #[.pointer (some ⟨G.p, 0, none⟩), .int .i64 op, .slice At nt ct] w (EndAns w fp G sites l m op tok) := by
  have cm := blk_cell (j := 2) h.top rfl
  have hlook := h.look hw
  have htl := SlB.len ht
  obtain ⟨k, hf⟩ : ∃ k, findS l op = k := ⟨_, rfl⟩
  rw [hf] at hlook
  rcases Nat.eq_zero_or_pos k with rfl | hk
  · simp only [Nat.lt_irrefl, decide_false, Int.natCast_zero] at hlook
    have HE := Lib.hid (show EndAns w fp G sites l m op tok (.returned (.tuple #[.int .i64 0, .bool false])) w from ⟨by rw [hf]; rfl, by unfold endL; rw [hf]; exact ⟨fp, h, Fr.refl _ _, Grow.refl _ _⟩⟩)
    clear h hw ht hf
    go_enter Try.func10, Try.ntmps10
    go_wp2
    go_ret2
    exact HE.out
  · have hq : decide (0 < k) = true := by simpa using hk
    rw [hq] at hlook
    obtain ⟨_, x, hx, hxo⟩ := findS_some (k := k - 1) (by omega : findS l op = k - 1 + 1)
    obtain ⟨r, c, g, hv, hkl, hc, hg, hs⟩ := h.get_ hk hx
    obtain ⟨_, _, _, hmx⟩ := h.len_
    obtain ⟨A, nn, c', hfg, hb, htk, htkl, _, hnc⟩ := hs
    obtain ⟨D, hD, hA⟩ := h.map
    have c1 := blk_cell (j := 1) h.top rfl
    rw [hv] at c1
    have hrl : (r : Nat) ≠ G.mb := by
      obtain ⟨cs, hcs⟩ := own_tag h.row (g := r) (by rw [hv]; rfl)
      exact map_ne hcs hD
    have hgl := map_ne hb hD
    have hpl := map_ne h.top hD
    have kA := keyAsk op hw
    have hE2 : EndAns w fp G sites l m op tok = fun e w' => e = .returned (.tuple #[.int .i64 (k : Int), .bool true]) ∧ SessTo w fp G sites (l.set (k - 1) { x with op := 0, tok := if tok = [] then x.tok else tok }) m w' := by
      funext e w'
      unfold EndAns endL
      rw [hf, hq]
      obtain ⟨j, rfl⟩ : ∃ j, k = j + 1 := ⟨k - 1, by omega⟩
      simp only [Nat.add_sub_cancel] at hx ⊢
      rw [hx]
    rw [hE2]
    have HA := Lib.hid hA
    have H := Lib.hid h
    have HF := Lib.hid hf
    have HX := Lib.hid hx
    have HT := Lib.hid htk
    have HG := Lib.hid hg
    have HB := Lib.hid hb
    clear h hA hf hx htk hE2 hxo hg hv hq hb
    by_cases hn0 : nt = 0
    · subst hn0
      obtain rfl : tok = [] := List.eq_nil_of_length_eq_zero htl
      clear ht hta htl hnt
      go_enter Try.func10, Try.ntmps10
      go_wp2_with (at_delete; refine wpList_delete_own _ rfl _ _ 60 2 rfl 3 Try.keyAsk Try.underlying60 _ G.mb m D rfl hD _ _ rfl kA ?_; intro w1 hown1 hturn1)
      have g1 := hturn1.grown
      have HM := Lib.hid (show ∃ D, w1.ownsMap Try.prog 2 (plainElem Try.prog 3) G.mb m D ∧ ∀ l', (∀ op', findS l' op' = if op' = op then 0 else findS l op') → AskMap D l' from ⟨_, hown1, fun l' hl' => AskMap.del HA.out hl'⟩)
      have c1' := g1.cell c1 (fun e => hpl (by injection e))
      have hc' := g1.cell hc (fun e => hrl (by injection e))
      have hb1 : w1.heap[g]? = _ := (g1.block g (heap_lt HB.out) (fun e => hgl (by injection e))).trans HB.out
      have f2 := blk_free hb1 2
      have c2 := blk_cell (j := 2) hb1 rfl
      have hput : ∀ u, (w1.setCell ⟨g, 2, none⟩ u).heap[g]? = some (.cells #[.int .i64 x.site, .slice A nn c', u] 67 (0, 0)) := fun u => by
        rw [heap_setCell_same w1 g 2 _ _ u hb1]; rfl
      have G1 := Lib.hid g1
      have HB1 := Lib.hid hb1
      have C1 := Lib.hid (get_raw G.p r k c g l.length c1' hc' hk hkl hmx)
      clear hown1 hturn1 g1 c1 c1' hc hc' hb1
      refine C1.out.mono ?_
      rintro e w' ⟨rfl, rfl⟩
      go_wp2
      go_ret2
      refine ⟨rfl, fp, ?_, (Fr.of_grown G1.out).mono (fun i hi => by injection hi with hi; subst hi; exact .inl H.out.inm) |>.trans (Fr.set w1 ⟨g, 2, none⟩ (.int .i64 0)) (fun i hi => by subst hi; exact .inl hfg), Grow.refl _ _⟩
      refine H.out.end_ (tok := x.tok) HG.out HX.out (by rw [HF.out]; omega) (hput (.int .i64 0)) HM.out G1.out (Fr.set w1 ⟨g, 2, none⟩ (.int .i64 0)) (fun _ hb => hb) (fun b hb => ?_) ?_ htkl hnc
      · have := H.out.lt b hb
        have := G1.out.size
        simp
        omega
      · refine HT.out.keep fun b cs hb' ho => ?_
        exact (Kept.set (fp := fun b => b ≠ g) (.int .i64 0) (fun hh => hh rfl)) b _ (tag_ne ho HB.out (by decide)) ((Kept.grown (fp := fun b => b ≠ G.mb) G1.out (fun b hb hh => hh (by injection hb with hb; exact hb.symm))) b _ (map_ne ho hD) ho)
    · have hq1 : (0 : Int) < (nt : Int) := by omega
      have hte : tok ≠ [] := by intro e; subst e; simp at htl; omega
      have ht' := Lib.hid ht
      have hta' := Lib.hid hta
      have htl' := Lib.hid htl
      clear ht hta htl
      go_enter Try.func10, Try.ntmps10
      go_wp2_with (at_delete; refine wpList_delete_own _ rfl _ _ 60 2 rfl 3 Try.keyAsk Try.underlying60 _ G.mb m D rfl hD _ _ rfl kA ?_; intro w1 hown1 hturn1)
      have g1 := hturn1.grown
      have HM := Lib.hid (show ∃ D, w1.ownsMap Try.prog 2 (plainElem Try.prog 3) G.mb m D ∧ ∀ l', (∀ op', findS l' op' = if op' = op then 0 else findS l op') → AskMap D l' from ⟨_, hown1, fun l' hl' => AskMap.del HA.out hl'⟩)
      have c1' := g1.cell c1 (fun e => hpl (by injection e))
      have hc' := g1.cell hc (fun e => hrl (by injection e))
      have hb1 : w1.heap[g]? = _ := (g1.block g (heap_lt HB.out) (fun e => hgl (by injection e))).trans HB.out
      have f2 := blk_free hb1 2
      have c2 := blk_cell (j := 2) hb1 rfl
      have hput : ∀ u, (w1.setCell ⟨g, 2, none⟩ u).heap[g]? = some (.cells #[.int .i64 x.site, .slice A nn c', u] 67 (0, 0)) := fun u => by
        rw [heap_setCell_same w1 g 2 _ _ u hb1]; rfl
      have G1 := Lib.hid g1
      have HB1 := Lib.hid hb1
      have C1 := Lib.hid (get_raw G.p r k c g l.length c1' hc' hk hkl hmx)
      clear hown1 hturn1 g1 c1 c1' hc hc' hb1
      refine C1.out.mono ?_
      rintro e w' ⟨rfl, rfl⟩
      have S2 : SlB (w1.setCell ⟨g, 2, none⟩ (.int .i64 0)) At nt tok := by
        refine Sl.keepB ht'.out fun b off hn e => ?_
        have hb := hta'.out b off none (by omega) e
        rw [Below.heap_setCell _ _ _ _ (fun e => hb (by show fp b; rw [e]; exact hfg))]
        exact G1.out.block b (Sl.blk_lt ht'.out hn e) (fun e => hb (by injection e with e; rw [e]; exact H.out.inm))
      have C3 := Lib.hid (clone_any At nt ct tok _ S2 hct hnt)
      clear S2
      go_wp2_with fail
      refine C3.out.mono ?_
      rintro e w3 ⟨A2, n2, c2, rfl, s2, hc2, own2, b3⟩
      have h3 : w3.heap[g]? = _ := (b3.block g (by simp; exact heap_lt HB1.out)).trans (hput (.int .i64 0))
      have f31 := blk_free h3 1
      have c31 := blk_cell (j := 1) h3 rfl
      have hsz : w.heap.size ≤ w3.heap.size := Nat.le_trans G1.out.size (Nat.le_trans (by simp) b3.size)
      have h4 : (w3.setCell ⟨g, 1, none⟩ (.slice A2 n2 c2)).heap[g]? = some (.cells #[.int .i64 x.site, .slice A2 n2 c2, .int .i64 0] 67 (0, 0)) := by
        rw [heap_setCell_same w3 g 1 _ _ _ h3]; rfl
      have T4 : SlF (w3.setCell ⟨g, 1, none⟩ (.slice A2 n2 c2)) (fun b => fp b ∨ w.heap.size ≤ b ∧ b < w3.heap.size) 5 A2 n2 1 (bsV tok) := by
        have hs1 := G1.out.size
        refine (SlF.of_own own2 (fp := fun b => fp b ∨ w.heap.size ≤ b ∧ b < w3.heap.size) (fun i hi hi2 => .inr ⟨?_, hi2⟩)).keep fun b cs hb' ho => ?_
        · simp at hi
          omega
        · exact (Kept.set (fp := fun b => b ≠ g) _ (fun hh => hh rfl)) b _ (tag_ne ho h3 (by decide)) ho
      have F4 : Fr (fun b => b = g) w1 (w3.setCell ⟨g, 1, none⟩ (.slice A2 n2 c2)) :=
        ((Fr.set w1 ⟨g, 2, none⟩ (.int .i64 0)).trans (Fr.of_below b3 (fp := fun b => b = g)) (fun i hi => .inl hi)).trans (Fr.set w3 ⟨g, 1, none⟩ _) (fun i hi => .inl hi)
      have H4 := Lib.hid (H.out.end_ (tok := tok) HG.out HX.out (by rw [HF.out]; omega) h4 HM.out G1.out F4 (fun _ hb => Or.inl hb) (fun b hb => by
        rcases hb with hb | hb
        · have := H.out.lt b hb
          simp
          omega
        · simpa using hb.2) T4 (by rw [tokMax_eq, htl'.out]; exact hnt) hc2)
      have FF := Lib.hid ((Fr.of_grown G1.out).mono (fp' := fp) (fun i hi => by injection hi with hi; subst hi; exact .inl H.out.inm) |>.trans F4 (fun i hi => by subst hi; exact .inl hfg))
      clear own2 b3 h3 h4 T4 F4 s2
      go_wp2
      go_ret2
      refine ⟨rfl, fun b => fp b ∨ w.heap.size ≤ b ∧ b < w3.heap.size, ?_, FF.out, fun i hi => Or.imp id And.left hi⟩
      exact H4.out
end
end Go.Proofs.Ytbcgalejebeicaa
