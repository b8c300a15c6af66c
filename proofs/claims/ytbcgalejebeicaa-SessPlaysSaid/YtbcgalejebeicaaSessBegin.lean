/-
  Sessions: Begin.
-/
import Derived.Test.YtbcgalejebeicaaSessDo
namespace Go.Proofs.Ytbcgalejebeicaa
open Go.RowKit
set_option linter.unusedVariables false

/-- What Begin leaves: the token that it tells is new memory, no part of the state. -/
def BeginAns (w : World) (fp : Nat → Prop) (G : SGeo) (sites : Int) (l : List Ses) (m : Nat) (n op : Int) (e : Ending) (w' : World) : Prop :=
  ∃ A k c, e = .returned (.tuple #[.int .i64 (beginA l n op).1, .slice A k c, .int .i64 (beginA l n op).2.2]) ∧ SlB w' A k (beginA l n op).2.1 ∧ k ≤ c ∧ w'.ownsRow w.heap.size 5 1 (.slice A k c) k (bsV (beginA l n op).2.1) ∧
    SessG w' fp G sites (beginL l n op) (m + 1) ∧ Fr fp w w'
section
variable {w w' : World} {fp : Nat → Prop} {G : SGeo} {sites : Int} {l : List Ses} {m : Nat}
theorem SessG.more (h : SessG w fp G sites l m) {m' : Nat} (hm : m ≤ m') : SessG w fp G sites l m' := by
  obtain ⟨D, hD, hA⟩ := h.map
  exact ⟨h.inp, h.inm, h.top, h.row, h.inl, ⟨D, hD.mono hm, hA⟩, h.nod, h.len, h.ses, h.asks, h.lt⟩
theorem BeginAns.no (h : SessG w fp G sites l m) {n op x : Int} (hA : beginA l n op = (0, [], x)) (hL : beginL l n op = l) : BeginAns w fp G sites l m n op (.returned (.tuple #[.int .i64 0, .slice none 0 0, .int .i64 x])) w := by
  unfold BeginAns
  rw [hA, hL]
  exact ⟨none, 0, 0, rfl, Sl.nil _ _ _, Nat.le_refl _, World.ownsRow_nil _ _ _ _, h.more (by omega), Fr.refl _ _⟩
/-- Behind Begin's two stores. -/
theorem SessG.begin_ (h : SessG w fp G sites l m) {k g : Nat} {x : Ses} {op : Int} {A : Option Addr} {nn c : Nat} (hg : G.gs[k]? = some g) (hx : l[k]? = some x) (hx0 : x.op = 0) (hop : 0 < op) (hw : (Lit.int .i64 op).wf = true) (hf : findS l op = 0) (hm : m < maxLen) {z : Int} (hz : z = ((k + 1 : Nat) : Int))
    (hb : w.heap[g]? = some (.cells #[.int .i64 x.site, .slice A nn c, .int .i64 x.op] 67 (0, 0))) :
    ∃ (v0 : Value) (st : Nat) (w1 w2 : World), (Instr.mapEntry 60 (.map (some G.mb)) (.int .i64 op)).run Try.prog (w.setCell ⟨g, 2, none⟩ (.int .i64 op)) = .ok (.tuple #[v0, .int .i64 (st : Int)]) w1 ∧
      (Instr.entryStore 60 (.map (some G.mb)) (.int .i64 (st : Int)) (.int .i64 z)).run Try.prog w1 = .ok () w2 ∧
      SessG w2 fp G sites (l.set k { x with op := op }) (m + 1) ∧ Fr fp w w2 ∧ w2.heap[g]? = some (.cells #[.int .i64 x.site, .slice A nn c, .int .i64 op] 67 (0, 0)) := by
  subst hz
  obtain ⟨A', n', c', h1, h2, h3, h4, h5, h6⟩ := h.ses k g x hg hx
  rw [hb] at h2
  injection h2 with h2
  injection h2 with h2
  simp only [Array.mk.injEq, List.cons.injEq, Value.slice.injEq, and_true, true_and] at h2
  obtain ⟨rfl, rfl, rfl⟩ := h2
  obtain ⟨D, hD, hA⟩ := h.map
  have hne := map_ne hb hD
  have hk1 : Kept (fun b => fp b ∧ b ≠ g) w (w.setCell ⟨g, 2, none⟩ (.int .i64 op)) := Kept.set _ (fun hh => hh.2 rfl)
  have hD1 := map_keep hD (fp := fun b => fp b ∧ b ≠ g) ⟨h.inm, hne.symm⟩ hk1
  have hkl : k < l.length := (List.getElem?_eq_some_iff.1 hx).1
  obtain ⟨_, _, _, hmx⟩ := h.len_
  unfold maxLen at hmx
  obtain ⟨v0, st, w1, w2, r1, r2, o2, g1, g2⟩ := entry_own hD1 Try.keyAsk Try.underlying60 Try.zeroAsk hm (keyAsk op hw) (plainElem_int (a := ((k + 1 : Nat) : Int)) Try.underlying3 (WalkArith.wf_i64 (by omega)))
  have hk2 : Kept (fun b => fp b ∧ b ≠ g ∧ b ≠ G.mb) w w2 := (hk1.mono fun b hb => ⟨hb.1, hb.2.1⟩).trans (Kept.grown g2 fun b hb hh => hh.2.2 (by injection hb with hb; exact hb.symm))
  have hgc : w2.heap[g]? = some (.cells #[.int .i64 x.site, .slice A nn c, .int .i64 op] 67 (0, 0)) := by
    have e1 := heap_setCell_same w g 2 _ _ (.int .i64 op) hb
    rw [g2.block g (by simpa using h.lt g h1) (fun e => hne (by injection e)), e1]
    rfl
  have hlt : ∀ b, fp b → b < w2.heap.size := fun b hb => Nat.lt_of_lt_of_le (h.lt b hb) (Nat.le_trans (by simp) g2.size)
  refine ⟨v0, st, w1, w2, r1, r2, ?_, ?_, hgc⟩
  · refine h.turn (y := { x with op := op }) hg hx hgc ?_ h4 hw h6 hk2 ⟨_, o2, hA.put (find_begin h.asks hx hx0 hop hf)⟩ (h.asks.begin hx hop hf) (fun _ hb => hb) hlt (Nat.le_trans (by simp) g2.size)
    refine h3.keep fun b cs hb' ho => hk2 b _ ⟨hb', tag_ne ho hb (by decide), map_ne ho hD⟩ ho
  · exact (h.frSet h1 _).trans (Fr.of_grown g2) (fun i hi => by
      injection hi with hi
      subst hi
      exact .inl h.inm)

/-- What is kept while Begin tells what it tells. -/
def BegR (w0 : World) (A : Option Addr) (n : Nat) (l : List UInt8) (w : World) : Prop := SlB w A n l ∧ Below w0.heap.size w0 w
def BegC (w0 : World) (g : Nat) (s : Int) (A : Option Addr) (n c : Nat) (l : List UInt8) (w : World) : Prop :=
  w.cell? ⟨g, 0, none⟩ = some (.int .i64 s) ∧ w.cell? ⟨g, 1, none⟩ = some (.slice A n c) ∧ BegR w0 A n l w
theorem BegC.step {w0 w w' : World} {g : Nat} {s : Int} {A : Option Addr} {n c : Nat} {l : List UInt8} (h : BegC w0 g s A n c l w) (b : Below w.heap.size w w') : BegC w0 g s A n c l w' :=
  ⟨(b.cell (World.block_lt_of_cell? _ _ h.1)).trans h.1, (b.cell (World.block_lt_of_cell? _ _ h.2.1)).trans h.2.1, Sl.below h.2.2.1 b, h.2.2.2.trans (b.mono h.2.2.2.size)⟩

set_option maxHeartbeats 2000000 in
theorem begin_any (n op : Int) (h : SessG w fp G sites l m) (hm : m < maxLen) (hw : (Lit.int .i64 op).wf = true) :
    Calls Try.prog 9 #[.pointer (some ⟨G.p, 0, none⟩), .int .i64 n, .int .i64 op] w (BeginAns w fp G sites l m n op) := by
  have cm := blk_cell (j := 2) h.top rfl
  have hlook := h.look hw
  rcases getS_cases l n with ⟨hs, hn⟩ | ⟨k, x, rfl, hk, hkl, hx, hs⟩
  · have C := Lib.hid (get_none n h hn)
    have HN := Lib.hid (BeginAns.no (n := n) (op := op) (x := 210) h (by unfold beginA; rw [hs]) (by unfold beginL; rw [hs]))
    clear h hn hs hw hm
    go_enter Try.func9, Try.ntmps9
    go_wp2_with fail
    refine C.out.mono ?_
    rintro e w' ⟨rfl, rfl⟩
    go_wp2
    go_ret3
    exact HN.out
  · obtain ⟨g, hg, ⟨A, nn, c, hfg, hb, ht, htl, _, hnc⟩, C0⟩ := get_some k x h hk hx
    have C := Lib.hid C0
    have c2 := blk_cell (j := 2) hb rfl
    have f2 := blk_free hb 2
    rcases hf : findS l op with _ | q
    · rw [hf] at hlook
      simp only [Nat.lt_irrefl, decide_false, Int.natCast_zero] at hlook
      by_cases ho : op < 1
      · have HN := Lib.hid (BeginAns.no (n := (k : Int)) (op := op) (x := 1) h (by unfold beginA; rw [hs]; simp only []; rw [if_pos (.inl ho)]) (by unfold beginL; rw [hs]; simp only []; rw [if_pos (.inl ho)]))
        clear h hs hw hm hg hx hf hb ht C0 hk hkl hnc
        go_enter Try.func9, Try.ntmps9
        go_wp2_with fail
        refine C.out.mono ?_
        rintro e w' ⟨rfl, rfl⟩
        go_wp2
        go_ret3
        exact HN.out
      · by_cases h0 : x.op = 0
        · have hnl : nn ≤ 140737488351232 := by have := SlB.len ht.1; rw [tokMax_eq] at htl; omega
          have hAn : beginA l (k : Int) op = (x.site, x.tok, 0) := by
            unfold beginA; rw [hs]; simp only []; rw [if_neg (by omega), if_neg (by omega)]
          have hLn : beginL l (k : Int) op = l.set (k - 1) { x with op := op } := by
            unfold beginL; rw [hs]; simp only []; rw [if_neg (by omega), if_neg (by omega), Int.toNat_natCast]
          obtain ⟨v0, st, w1, w2, r1, r2, h2, F2, hb2⟩ := h.begin_ (k := k - 1) (z := (k : Int)) hg hx h0 (by omega) hw hf hm (by omega) hb
          have T2 : SlB w2 A nn x.tok := by
            obtain ⟨A', n', c', _, e1, e2, _⟩ := h2.ses (k - 1) g { x with op := op } hg (by rw [List.getElem?_set_self (by omega)])
            rw [hb2] at e1
            injection e1 with e1
            injection e1 with e1
            simp only [Array.mk.injEq, List.cons.injEq, Value.slice.injEq, and_true, true_and] at e1
            obtain ⟨rfl, rfl, rfl⟩ := e1
            exact e2.1
          have HS := Lib.hid (show BegC w2 g x.site A nn c x.tok w2.drew from ⟨blk_cell hb2 rfl, blk_cell hb2 rfl, T2, (Below.refl _ _).drew⟩)
          have H2 := Lib.hid (And.intro h2 F2)
          have HE := Lib.hid (And.intro hAn hLn)
          rw [h0] at c2
          have hsz := Lib.hid F2.size
          clear h hs hw hm hg hx hf hb ht C0 hk hkl hAn hLn h2 F2 hb2 T2 h0
          go_enter Try.func9, Try.ntmps9
          go_wp2_with fail
          refine C.out.mono ?_
          rintro e w' ⟨rfl, rfl⟩
          go_wp2
          go_region_held3 (fun w' => w'.cell? ⟨g, 0, none⟩ = some (.int .i64 x.site) ∧ w'.cell? ⟨g, 1, none⟩ = some (.slice A nn c) ∧ BegR w2 A nn x.tok w')
            (first | exact HS.out | assumption)
            (first | (go_at_call 24; refine (clone_any A nn c x.tok _ (by exact (show BegC w2 g x.site A nn c x.tok _ by assumption).2.2.1) hnc hnl).mono ?_; rintro e w6 ⟨A2, n2, c2, rfl, s2, hc2, own2, q6⟩; have hS := BegC.step (by assumption) q6))
          have hq := (show BegC w2 g x.site A nn c x.tok _ by assumption)
          go_wp2
          go_ret3
          unfold BeginAns
          rw [HE.out.1, HE.out.2]
          exact ⟨A2, n2, c2, rfl, s2, hc2, own_lower own2 hsz.out, H2.out.1.below hq.2.2.2, H2.out.2.trans (Fr.of_below hq.2.2.2 (fp := fp)) (fun i hi => .inl hi)⟩
        · have q : (x.op == 0) = false := by simpa using h0
          have HN := Lib.hid (BeginAns.no (n := (k : Int)) (op := op) (x := 202) h (by unfold beginA; rw [hs]; simp only []; rw [if_neg (by omega), if_pos h0]) (by unfold beginL; rw [hs]; simp only []; rw [if_neg (by omega), if_pos h0]))
          clear h hs hw hm hg hx hf hb ht C0 hk hkl hnc h0
          go_enter Try.func9, Try.ntmps9
          go_wp2_with fail
          refine C.out.mono ?_
          rintro e w' ⟨rfl, rfl⟩
          go_wp2
          go_ret3
          exact HN.out
    · rw [hf] at hlook
      simp only [Nat.zero_lt_succ, decide_true] at hlook
      have HN := Lib.hid (BeginAns.no (n := (k : Int)) (op := op) (x := 1) h (by unfold beginA; rw [hs]; simp only []; rw [if_pos (.inr (by omega))]) (by unfold beginL; rw [hs]; simp only []; rw [if_pos (.inr (by omega))]))
      clear h hs hw hm hg hx hf hb ht C0 hk hkl hnc
      by_cases ho : op < 1
      all_goals
        go_enter Try.func9, Try.ntmps9
        go_wp2_with fail
        refine C.out.mono ?_
        rintro e w' ⟨rfl, rfl⟩
        go_wp2
        go_ret3
        exact HN.out
end
end Go.Proofs.Ytbcgalejebeicaa
