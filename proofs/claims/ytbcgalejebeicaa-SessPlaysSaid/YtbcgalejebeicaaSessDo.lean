/-
  Sessions: what writes: Go, Begin.
-/
import Derived.Test.YtbcgalejebeicaaSessGet
import Derived.Test.YtbcgalejebeicaaMapEntry
import Derived.Deep.RegionHeld3
import Derived.Outline
namespace Go.Proofs.Ytbcgalejebeicaa
open Go.RowKit
set_option linter.unusedVariables false

/-- What a method that answers v leaves. -/
def SessAns (w : World) (fp : Nat → Prop) (G : SGeo) (sites : Int) (l : List Ses) (m : Nat) (v : Value) (e : Ending) (w' : World) : Prop :=
  e = .returned v ∧ SessTo w fp G sites l m w'
section
variable {w w' : World} {fp : Nat → Prop} {G : SGeo} {sites : Int} {l : List Ses} {m : Nat}
theorem SessG.same (h : SessG w fp G sites l m) {v : Value} : SessAns w fp G sites l m v (.returned v) w := ⟨rfl, fp, h, Fr.refl _ _, Grow.refl _ _⟩
theorem SessG.putSite (h : SessG w fp G sites l m) {i g : Nat} {x : Ses} (hg : G.gs[i]? = some g) (hx : l[i]? = some x) (s : Int) :
    SessG (w.setCell ⟨g, 0, none⟩ (.int .i64 s)) fp G sites (l.set i { x with site := s }) m := by
  obtain ⟨A, n, c, h1, h2, h3, h4, h5, h6⟩ := h.ses i g x hg hx
  obtain ⟨D, hD, hA⟩ := h.map
  have hk : Kept (fun b => fp b ∧ b ≠ g) w (w.setCell ⟨g, 0, none⟩ (.int .i64 s)) := Kept.set _ (fun hh => hh.2 rfl)
  refine h.turn (y := { x with site := s }) (A := A) (n := n) (c := c) hg hx ?_ ?_ h4 h5 h6 (hk.mono fun b hb => ⟨hb.1, hb.2.1⟩) ?_ (h.asks.quiet hx (.inr rfl)) (fun _ hb => hb) (fun b hb => by simpa using h.lt b hb) (by simp)
  · rw [heap_setCell_same w g 0 _ _ _ h2]; rfl
  · exact h3.keep fun b cs hb ho => hk b _ ⟨hb, tag_ne ho h2 (by decide)⟩ ho
  · exact ⟨D, map_keep hD (fp := fun b => fp b ∧ b ≠ g) ⟨h.inm, (map_ne h2 hD).symm⟩ hk, hA.same (find_quiet h.asks hx rfl)⟩
theorem SessG.frSet (h : SessG w fp G sites l m) {g j : Nat} (hg : fp g) (u : Value) : Fr fp w (w.setCell ⟨g, j, none⟩ u) := (Fr.set w ⟨g, j, none⟩ u).mono fun i hi => .inl (by subst hi; exact hg)

set_option maxHeartbeats 1000000 in
theorem goM_any (n s : Int) (h : SessG w fp G sites l m) :
    Calls Try.prog 12 #[.pointer (some ⟨G.p, 0, none⟩), .int .i64 n, .int .i64 s] w (SessAns w fp G sites (goL sites l n s) m (.int .i64 (goA sites l n s))) := by
  rcases getS_cases l n with ⟨hs, hn⟩ | ⟨k, x, rfl, hk, hkl, hx, hs⟩
  · have C := Lib.hid (get_none n h hn)
    have E : goA sites l n s = 210 ∧ goL sites l n s = l := by unfold goA goL; rw [hs]; exact ⟨rfl, rfl⟩
    rw [E.1, E.2]
    have H := Lib.hid h
    clear h hn hs E
    go_enter Try.func12, Try.ntmps12
    go_wp2_with fail
    refine C.out.mono ?_
    rintro e w' ⟨rfl, rfl⟩
    go_wp2
    go_ret
    exact H.out.same
  · obtain ⟨g, hg, ⟨A, nn, c, hfg, hb, hrest⟩, C0⟩ := get_some k x h hk hx
    have C := Lib.hid C0
    have c2 := blk_cell (j := 2) hb rfl
    have c0 := blk_cell (j := 0) hb rfl
    have f0 := blk_free hb 0
    by_cases hsite : 1 ≤ s ∧ s ≤ sites
    · have C2 := Lib.hid (siteB_yes s h hsite.1 hsite.2)
      by_cases hop : x.op = 0
      · have E : goA sites l (k : Int) s = 0 ∧ goL sites l (k : Int) s = l.set (k - 1) { x with site := s } := by
          unfold goA goL
          rw [hs]
          simp only [Int.toNat_natCast]
          rw [if_neg (by omega), if_neg (by omega), if_neg (by omega), if_neg (by omega)]
          exact ⟨rfl, rfl⟩
        rw [E.1, E.2]
        rw [hop] at c2
        have H := Lib.hid (h.putSite hg hx s)
        have F := Lib.hid (h.frSet (j := 0) hfg (.int .i64 s))
        clear h hs E hg hx hrest hb C0 hop hsite hk hkl
        go_enter Try.func12, Try.ntmps12
        go_wp2_with fail
        refine C.out.mono ?_
        rintro e w' ⟨rfl, rfl⟩
        go_wp2_with fail
        refine C2.out.mono ?_
        rintro e w' ⟨rfl, rfl⟩
        go_wp2
        go_ret
        exact ⟨rfl, fp, H.out, F.out, Grow.refl _ _⟩
      · have E : goA sites l (k : Int) s = 202 ∧ goL sites l (k : Int) s = l := by
          unfold goA goL
          rw [hs]
          simp only []
          rw [if_neg (by omega), if_pos hop, if_neg (by omega), if_pos hop]
          exact ⟨rfl, rfl⟩
        rw [E.1, E.2]
        have q : (x.op == 0) = false := by simpa using hop
        have H := Lib.hid h
        clear h hs E hg hx hrest hb C0 hsite hk hkl
        go_enter Try.func12, Try.ntmps12
        go_wp2_with fail
        refine C.out.mono ?_
        rintro e w' ⟨rfl, rfl⟩
        go_wp2_with fail
        refine C2.out.mono ?_
        rintro e w' ⟨rfl, rfl⟩
        go_wp2
        go_ret
        exact H.out.same
    · have C2 := Lib.hid (siteB_no s h hsite)
      have E : goA sites l (k : Int) s = 1 ∧ goL sites l (k : Int) s = l := by
        unfold goA goL
        rw [hs]
        simp only []
        rw [if_pos (by omega), if_pos (by omega)]
        exact ⟨rfl, rfl⟩
      rw [E.1, E.2]
      have H := Lib.hid h
      clear h hs E hg hx hrest hb C0 hsite hk hkl
      go_enter Try.func12, Try.ntmps12
      go_wp2_with fail
      refine C.out.mono ?_
      rintro e w' ⟨rfl, rfl⟩
      go_wp2_with fail
      refine C2.out.mono ?_
      rintro e w' ⟨rfl, rfl⟩
      go_wp2
      go_ret
      exact H.out.same

theorem Try.keyAsk : Maps.Keyed Try.prog 2 := Maps.int_keyed Try.underlying2
theorem Try.zeroAsk (w : World) : (zeroValue 3).run Try.prog w = .ok (.int .i64 0) w := by kernel_rfl
theorem keyAsk (op : Int) (hw : (Lit.int .i64 op).wf = true) : keyOf Try.prog 2 (.int .i64 op) = some (.int .i64 op) := Maps.keyOf_int_mk Try.underlying2 hw
theorem SessG.look (h : SessG w fp G sites l m) {op : Int} (hw : (Lit.int .i64 op).wf = true) :
    (Instr.lookup 60 (.map (some G.mb)) (.int .i64 op) true).run Try.prog w = .ok (.tuple #[.int .i64 (findS l op : Int), .bool (decide (0 < findS l op))]) w := by
  obtain ⟨D, hD, _, hA⟩ := h.map
  obtain ⟨v, ps, hrun, hv⟩ := hD.look_ok Try.keyAsk Try.underlying60 (Try.zeroAsk w) (zd := .lit (.int .i64 0)) (zp := []) (plainElem_int Try.underlying3 (by decide)) (keyAsk op hw)
  obtain ⟨h1, h2⟩ := hA op
  rw [h2] at hv
  obtain ⟨c, rfl, hc, _⟩ := plainElem_int_inv Try.underlying3 hv
  simp only [Prod.mk.injEq, DataW.lit.injEq, Lit.int.injEq, true_and] at hc
  rw [hrun, h1, hc.1]
end
end Go.Proofs.Ytbcgalejebeicaa
