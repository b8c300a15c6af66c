/-
  span.Join: two sets put together by merging.
-/
import Derived.Test.YtlcfknpmnoghbaaSpanRefJoin
import Derived.Deep.LoopGhost
import Derived.Deep.CutBlock
import Derived.Deep.DeepCutAuto
import Derived.RegionTactic
import Derived.BigRegion
import Derived.WalkMore
namespace Go.Proofs.Ytlcfknpmnoghbaa
open Go.RowKit
set_option linter.unusedVariables false

/-- Where the merging stands: what is left of both lists, and what is gathered. -/
def JoinAt (l1 l2 la lb out : List Sp) : Prop := mergeF (la.length + lb.length) la lb out = mergeL l1 l2 ∧ (∀ x ∈ la, okSp x) ∧ (∀ x ∈ lb, okSp x) ∧ (∀ x ∈ out, okSp x) ∧ out.length + la.length + lb.length ≤ l1.length + l2.length
theorem JoinAt.start {l1 l2 : List Sp} (h1 : Norm l1) (h2 : Norm l2) : JoinAt l1 l2 l1 l2 [] := ⟨rfl, h1.1, h2.1, by simp, by simp⟩
theorem pushS_ok {out : List Sp} {x : Sp} (h : ∀ y ∈ out, okSp y) (hx : okSp x) : (∀ y ∈ pushS out x, okSp y) ∧ (pushS out x).length ≤ out.length + 1 := by
  rcases List.eq_nil_or_concat out with rfl | ⟨o, z, rfl⟩
  · rw [pushS_nil]; exact ⟨fun y hy => by rw [List.mem_singleton] at hy; subst hy; exact hx, by simp⟩
  · rw [List.concat_eq_append] at *
    have hz := h z (by simp)
    rw [pushS_snoc]
    split
    · rename_i hc
      refine ⟨fun y hy => ?_, by simp⟩
      rcases List.mem_append.1 hy with hy | hy
      · exact h y (by simp [hy])
      · rw [List.mem_singleton] at hy; subst hy; unfold okSp at *; simp only; omega
    · refine ⟨fun y hy => ?_, by simp⟩
      rcases List.mem_append.1 hy with hy | hy
      · exact h y hy
      · rw [List.mem_singleton] at hy; subst hy; exact hx
theorem JoinAt.left {l1 l2 la lb out : List Sp} {x : Sp} (h : JoinAt l1 l2 (x :: la) lb out) (hc : lb = [] ∨ ∃ y lb', lb = y :: lb' ∧ beforeB x y = true) : JoinAt l1 l2 la lb (pushS out x) := by
  obtain ⟨h1, h2, h3, h4, h5⟩ := h
  obtain ⟨p1, p2⟩ := pushS_ok h4 (h2 x (List.mem_cons_self ..))
  refine ⟨?_, fun y hy => h2 y (List.mem_cons_of_mem _ hy), h3, p1, by simp at h5; omega⟩
  rw [← h1, List.length_cons, show la.length + 1 + lb.length = la.length + lb.length + 1 by omega]
  rcases hc with rfl | ⟨y, lb', rfl, hb⟩
  · rw [mergeF]
  · rw [mergeF, if_pos hb]
theorem JoinAt.right {l1 l2 la lb out : List Sp} {y : Sp} (h : JoinAt l1 l2 la (y :: lb) out) (hc : la = [] ∨ ∃ x la', la = x :: la' ∧ beforeB x y = false) : JoinAt l1 l2 la lb (pushS out y) := by
  obtain ⟨h1, h2, h3, h4, h5⟩ := h
  obtain ⟨p1, p2⟩ := pushS_ok h4 (h3 y (List.mem_cons_self ..))
  refine ⟨?_, h2, fun z hz => h3 z (List.mem_cons_of_mem _ hz), p1, by simp at h5; omega⟩
  rw [← h1, List.length_cons, show la.length + (lb.length + 1) = la.length + lb.length + 1 by omega]
  rcases hc with rfl | ⟨x, la', rfl, hb⟩
  · rw [mergeF]
  · rw [mergeF, if_neg (by rw [hb]; simp)]
theorem JoinAt.end_ {l1 l2 out : List Sp} (h : JoinAt l1 l2 [] [] out) : out = mergeL l1 l2 := h.1

/-- The rest of a slice of spans behind its first one. -/
theorem SlS.tail {w : World} {b off n : Nat} {x : Sp} {l : List Sp} (h : SlS w (some ⟨b, off, none⟩) n (x :: l)) : SlS w (some ⟨b, off + 3, none⟩) (n - 1) l := by
  have hl := h.len
  have h1 := Sl.cut (k := 1) (cap := n + 1) h (by simp at hl; omega) (by omega)
  rw [if_neg (by simp at hl; omega)] at h1
  unfold SlS
  simpa [add_plain', spV, spV1] using h1
theorem SlS.nil_of {w : World} {A : Option Addr} {l : List Sp} (h : SlS w A 0 l) (B : Option Addr) : SlS w B 0 [] := Sl.nil _ _ _

theorem spV_set (o : List Sp) (a b c d : Int) : (spV (o ++ [(a, b, c)])).set (o.length * 3 + 2) (.int .i64 d) = spV (o ++ [(a, b, d)]) := by
  rw [spV_append, spV_append, ← spV_length o, List.set_append_right _ _ (by omega)]
  congr 1
  rw [show (spV o).length + 2 - (spV o).length = 2 by omega]
  rfl


theorem SlS.tail1 {w : World} {A : Option Addr} {n : Nat} {x : Sp} {l : List Sp} (h : SlS w A n (x :: l)) (hc : n ≤ 1) (B : Option Addr) : SlS w B (n - 1) l := by
  have hl := h.len
  simp at hl
  have e1 : l = [] := List.eq_nil_of_length_eq_zero (by omega)
  have e2 : n - 1 = 0 := by omega
  rw [e1, e2]
  exact Sl.nil _ _ _
theorem own_setN {w : World} {base : Nat} {e : TypeId} {size : Nat} {v : Value} {n : Nat} {xs : List Value} (h : w.ownsRow base e size v n xs) {g j : Nat} (hne : v.ownBlock ≠ some g) (u : Value) : (w.setCell ⟨g, j, none⟩ u).ownsRow base e size v n xs :=
  h.kept (grown_set w ⟨g, j, none⟩ u) (.inr hne)
theorem own_drewN {w : World} {base : Nat} {e : TypeId} {size : Nat} {v : Value} {n : Nat} {xs : List Value} (h : w.ownsRow base e size v n xs) (k : Nat) : (w.drewN k).ownsRow base e size v n xs := h
theorem Box3.drewN {w : World} {g : Nat} {t : TypeId} {x y z : Int} (h : Box3 w g t x y z) (k : Nat) : Box3 (w.drewN k) g t x y z := h
/-- The box of the loop's span is no block of the row. -/
def Apart (v : Value) (g : Nat) : Prop := v.ownBlock ≠ some g

/-- What a round's choice leaves. -/
def Chosen (w : World) (l1 l2 out : List Sp) (base g tot : Nat) (vo : Value) (m : Nat) (s0 s1 : Value) (wx : World) : Prop :=
  ∃ (A' : Option Addr) (na' ca' : Nat) (B' : Option Addr) (nb' cb' : Nat) (la' lb' : List Sp) (x1 x2 x3 : Int), s0 = .slice A' na' ca' ∧ s1 = .slice B' nb' cb' ∧ na' + nb' < tot ∧ na' ≤ ca' ∧ nb' ≤ cb' ∧ SlS w A' na' la' ∧ SlS w B' nb' lb' ∧
    JoinAt l1 l2 la' lb' (pushS out (x1, x2, x3)) ∧ okSp (x1, x2, x3) ∧ Box3 wx g 42 x1 x2 x3 ∧ wx.ownsRow base 42 3 vo m (spV out) ∧ Below w.heap.size w wx ∧ g + 1 ≤ wx.heap.size
theorem Chosen.mk {w : World} {l1 l2 out : List Sp} {base g tot : Nat} {vo : Value} {m : Nat} {w5 : World} {A' : Option Addr} {na' ca' : Nat} {B' : Option Addr} {nb' cb' : Nat} {la' lb' : List Sp} {x1 x2 x3 : Int}
    (ht : na' + nb' < tot) (h1 : na' ≤ ca') (h2 : nb' ≤ cb') (sa : SlS w A' na' la') (sb : SlS w B' nb' lb') (hj : JoinAt l1 l2 la' lb' (pushS out (x1, x2, x3))) (hx : okSp (x1, x2, x3))
    (hb : Box3 w5 g 42 0 0 0) (ho : w5.ownsRow base 42 3 vo m (spV out)) (hn : Apart vo g) (hl : Below w.heap.size w w5) (hg : w.heap.size ≤ g) (hs : g + 1 ≤ w5.heap.size) :
    Chosen w l1 l2 out base g tot vo m (.slice A' na' ca') (.slice B' nb' cb') (((w5.setCell ⟨g, 0, none⟩ (.int .i64 x1)).setCell ⟨g, 1, none⟩ (.int .i64 x2)).setCell ⟨g, 2, none⟩ (.int .i64 x3)).drew :=
  ⟨A', na', ca', B', nb', cb', la', lb', x1, x2, x3, rfl, rfl, ht, h1, h2, sa, sb, hj, hx, hb.set3 x1 x2 x3, own_setN (own_setN (own_setN ho hn _) hn _) hn _, (below_set3 hl hg _ _ _).drew, by simp [World.setCell]; omega⟩


set_option maxHeartbeats 4000000 in
set_option maxRecDepth 100000 in
theorem spanJoin_any (A1 A2 : Option Addr) (n1 n2 c1 c2 : Nat) (l1 l2 : List Sp) (w : World) (h1 : SlS w A1 n1 l1) (h2 : SlS w A2 n2 l2) (hn1 : n1 ≤ 140737488351232) (hn2 : n2 ≤ 140737488351232) (hc1 : n1 ≤ c1) (hc2 : n2 ≤ c2) :
    Calls Try.prog 42 #[.slice A1 n1 c1, .slice A2 n2 c2] w (NewSpansE w (joinSL l1 l2) (joinSE l1 l2)) := by
  obtain ⟨i0, hi, hz0, hz1, hz2⟩ := info_parts Try.infoSpan
  have e1 := h1.len
  have e2 := h2.len
  have C1 := spanRight_any A1 n1 c1 l1 w h1 hn1
  have C2 := fun W (h : SlS W A2 n2 l2) => spanRight_any A2 n2 c2 l2 W h hn2
  cases hr1 : rightS l1
  · obtain ⟨f1, f2⟩ := joinS_wrong (a := l1) (b := l2) (by rw [hr1]; simp)
    rw [f1, f2]
    rw [hr1] at C1
    have D1 := Lib.hid C1
    clear C1 C2 hr1 f1 f2
    go_enter Try.func42, Try.ntmps42
    go_wp2
    go_step3
    go_wp2_with fail
    refine D1.out.mono ?_
    rintro e w1 ⟨rfl, b1⟩
    go_wp2
    rw [Exit.noGoto_ret]
    go_ret2
    exact NewSpansE.nil b1
  · cases hr2 : rightS l2
    · obtain ⟨f1, f2⟩ := joinS_wrong (a := l1) (b := l2) (by rw [hr2]; simp)
      rw [f1, f2]
      rw [hr1] at C1
      simp only [hr2] at C2
      have D1 := Lib.hid C1
      have D2 := Lib.hid C2
      clear C1 C2 hr1 hr2 f1 f2
      go_enter Try.func42, Try.ntmps42
      go_wp2
      go_step3
      go_wp2_with fail
      refine D1.out.mono ?_
      rintro e w1 ⟨rfl, b1⟩
      have D3 := Lib.hid (D2.out w1 (Sl.below h2 b1))
      go_wp2_with fail
      refine D3.out.mono ?_
      rintro e w2 ⟨rfl, b2⟩
      go_wp2
      rw [Exit.noGoto_ret]
      go_ret2
      exact NewSpansE.nil (b1.trans (b2.mono b1.size))
    · have N1 := (rightS_true.1 hr1)
      have N2 := (rightS_true.1 hr2)
      have l1n := N1.2
      have l2n := N2.2
      have HS := Lib.hid (JoinAt.start N1.1 N2.1)
      have HR := Lib.hid (And.intro hr1 hr2)
      rw [hr1] at C1
      simp only [hr2] at C2
      have D1 := Lib.hid C1
      have D2 := Lib.hid C2
      clear C1 C2 hr1 hr2 N1 N2
      go_enter Try.func42, Try.ntmps42
      go_wp2
      go_step3
      go_wp2_with fail
      refine D1.out.mono ?_
      rintro e w1 ⟨rfl, b1⟩
      have D3 := Lib.hid (D2.out w1 (Sl.below h2 b1))
      go_wp2_with fail
      refine D3.out.mono ?_
      rintro e w2 ⟨rfl, b2⟩
      have B2 := b1.trans (b2.mono b1.size)
      have y2 := B2.size
      clear D1 D2 D3 b1 b2
      go_wp2
      go_step3
      go_wp2
      go_loopg [0, 1, 6] (n1 + n2) (fun g va vb vo wr => ∃ (A : Option Addr) (na ca : Nat) (B : Option Addr) (nb cb : Nat) (Ao : Option Addr) (m co : Nat) (la lb out : List Sp), va = .slice A na ca ∧ vb = .slice B nb cb ∧ vo = .slice Ao m co ∧ g = na + nb ∧ na ≤ ca ∧ nb ≤ cb ∧ m ≤ co ∧ SlS w A na la ∧ SlS w B nb lb ∧
        Hid (JoinAt l1 l2 la lb out) ∧ wr.ownsRow w2.heap.size 42 3 (.slice Ao m co) m (spV out) ∧ Below w.heap.size w wr ∧ w2.heap.size ≤ wr.heap.size)
      case atStart => exact ⟨A1, n1, c1, A2, n2, c2, none, 0, 0, l1, l2, [], rfl, rfl, rfl, rfl, hc1, hc2, Nat.le_refl _, h1, h2, HS, World.ownsRow_nil _ _ _ _, B2, Nat.le_refl _⟩
      case round =>
        obtain ⟨A, na, ca, B, nb, cb, Ao, m, co, la, lb, out, rfl, rfl, rfl, rfl, hna, hnb, hco, sa, sb, HJ, hown, hbel, hw2⟩ := hrel
        have hsz := hbel.size
        have hla := Lib.hid (SlS.len sa)
        have hlb := Lib.hid (SlS.len sb)
        have hm := Lib.hid (SlS.len (Sl.of_own hown))
        have hml : m ≤ 2048 := by have := HJ.out.2.2.2.2; have := hm.out; omega
        clear h1 h2 HS
        go_upto_block 2 with fail
        have HB0 := Lib.hid (Box3.new wr 42 0 0 0)
        have BR0 := Lib.hid (hbel.alloc hsz (.cells #[.int .i64 0, .int .i64 0, .int .i64 0] 42))
        have OW0 := Lib.hid (hown.alloc (.cells #[.int .i64 0, .int .i64 0, .int .i64 0] 42))
        have HAP := Lib.hid (show Apart (.slice Ao m co) wr.heap.size from fun e => by have := hown.lt _ e; omega)
        clear hown hbel
        go_cut [0, 1] (fun s0 s1 wx => Chosen w l1 l2 out w2.heap.size wr.heap.size (na + nb) (.slice Ao m co) m s0 s1 wx)
        case first =>
          by_cases ha : na = 0
          · by_cases hb : nb = 0
            · have v1 : decide (0 < na) = false := decide_eq_false (by omega)
              have v2 : decide (0 < nb) = false := decide_eq_false (by omega)
              have HE : Hid (out = mergeL l1 l2) := by
                have h1 : la = [] := List.eq_nil_of_length_eq_zero (by rw [hla.out]; exact ha)
                have h2 : lb = [] := List.eq_nil_of_length_eq_zero (by rw [hlb.out]; exact hb)
                have h3 := HJ.out
                rw [h1, h2] at h3
                exact h3.end_
              go_wp2_with fail
              refine wp_region_ext (by kernel_rfl) (by kernel_rfl) ?_
              repeat (go_big_quiet_step (fail))
              refine wpQuiet_nil ?_
              intro w5 hw5
              have b5 := ext_end hw5
              have BOX := Lib.hid (HB0.out.below b5)
              have R5 := Lib.hid (BR0.out.trans (b5.mono BR0.out.size))
              have O5 := Lib.hid (own_below OW0.out b5)
              have y5 := b5.size
              simp at y5
              clear hw5 b5
              have BXO := BOX.out
              have g0 := BXO.c0
              have g1 := BXO.c1
              have g2 := BXO.c2
              have g3 := BXO.fr 0
              have g4 := BXO.fr 1
              have g5 := BXO.fr 2
              have g6 := BXO.lt
              clear BXO
              clear g0 g1 g2 g3 g4 g5
              by_cases hlong : 1024 < m
              · have HF := Lib.hid (joinS_full HR.out.1 HR.out.2 (by rw [← HE.out, hm.out]; exact hlong))
                go_wp2
                rw [Exit.noGoto_ret]
                go_ret2
                rw [HF.out.1, HF.out.2]
                exact NewSpansE.nil R5.out
              · have HF := Lib.hid (joinS_yes HR.out.1 HR.out.2 (by rw [← HE.out, hm.out]; omega))
                go_wp2
                rw [Exit.noGoto_ret]
                go_ret2
                rw [HF.out.1, HF.out.2, ← HE.out]
                exact ⟨Ao, _, co, rfl, Sl.of_own O5.out, hco, own_lower O5.out y2, R5.out⟩
            · match lb, hlb.out, sb, HJ with
              | [], hl, _, _ => exact absurd hl.symm (by simpa using hb)
              | (y1, y2, y3) :: lb, hl, sb, HJ =>
                have HN := Lib.hid (HJ.out.right (.inl (List.eq_nil_of_length_eq_zero (by rw [hla.out]; exact ha))))
                obtain ⟨b, off, _, _, _, rfl, hx, hc0, hc1, hc2⟩ := SlS.at_ sb (k := 0) (by omega)
                simp only [List.getElem?_cons_zero, Option.some.injEq, Prod.mk.injEq] at hx
                obtain ⟨rfl, rfl, rfl⟩ := hx
                simp only [Nat.zero_mul, Nat.add_zero] at hc0 hc1 hc2
                subst ha
                have v1 : decide (0 < nb) = true := decide_eq_true (by omega)
                clear hl
                go_wp2_with fail
                refine wp_region_ext (by kernel_rfl) (by kernel_rfl) ?_
                repeat (go_big_quiet_step (fail))
                refine wpQuiet_nil ?_
                intro w5 hw5
                have b5 := ext_end hw5
                have BOX := Lib.hid (HB0.out.below b5)
                have R5 := Lib.hid (BR0.out.trans (b5.mono BR0.out.size))
                have O5 := Lib.hid (own_below OW0.out b5)
                have y5 := b5.size
                simp at y5
                clear hw5 b5
                have BXO := BOX.out
                have g0 := BXO.c0
                have g1 := BXO.c1
                have g2 := BXO.c2
                have g3 := BXO.fr 0
                have g4 := BXO.fr 1
                have g5 := BXO.fr 2
                have g6 := BXO.lt
                clear BXO
                have d0 := R5.out.cell (World.block_lt_of_cell? w _ hc0) |>.trans hc0
                have d1 := R5.out.cell (World.block_lt_of_cell? w _ hc1) |>.trans hc1
                have d2 := R5.out.cell (World.block_lt_of_cell? w _ hc2) |>.trans hc2
                have T0 := SlS.tail sb
                have T1 := fun h => SlS.tail1 sb h (some ⟨b, off, none⟩)
                have Hoy := Lib.hid (HJ.out.2.2.1 _ (List.mem_cons_self ..))
                go_wp2_with fail
                go_region
                all_goals go_wp2_with fail
                all_goals go_meet
                all_goals first
                  | exact Chosen.mk (by omega) (by omega) (by omega) sa T0 HN.out Hoy.out BOX.out O5.out HAP.out R5.out hsz y5
                  | exact Chosen.mk (by omega) (by omega) (by omega) sa (T1 (by omega)) HN.out Hoy.out BOX.out O5.out HAP.out R5.out hsz y5
          · by_cases hb : nb = 0
            · match la, hla.out, sa, HJ with
              | [], hl, _, _ => exact absurd hl.symm (by simpa using ha)
              | (y1, y2, y3) :: la, hl, sa, HJ =>
                have HN := Lib.hid (HJ.out.left (.inl (List.eq_nil_of_length_eq_zero (by rw [hlb.out]; exact hb))))
                obtain ⟨b, off, _, _, _, rfl, hx, hc0, hc1, hc2⟩ := SlS.at_ sa (k := 0) (by omega)
                simp only [List.getElem?_cons_zero, Option.some.injEq, Prod.mk.injEq] at hx
                obtain ⟨rfl, rfl, rfl⟩ := hx
                simp only [Nat.zero_mul, Nat.add_zero] at hc0 hc1 hc2
                subst hb
                have v1 : decide (0 < na) = true := decide_eq_true (by omega)
                clear hl
                go_wp2_with fail
                refine wp_region_ext (by kernel_rfl) (by kernel_rfl) ?_
                repeat (go_big_quiet_step (fail))
                refine wpQuiet_nil ?_
                intro w5 hw5
                have b5 := ext_end hw5
                have BOX := Lib.hid (HB0.out.below b5)
                have R5 := Lib.hid (BR0.out.trans (b5.mono BR0.out.size))
                have O5 := Lib.hid (own_below OW0.out b5)
                have y5 := b5.size
                simp at y5
                clear hw5 b5
                have BXO := BOX.out
                have g0 := BXO.c0
                have g1 := BXO.c1
                have g2 := BXO.c2
                have g3 := BXO.fr 0
                have g4 := BXO.fr 1
                have g5 := BXO.fr 2
                have g6 := BXO.lt
                clear BXO
                have d0 := R5.out.cell (World.block_lt_of_cell? w _ hc0) |>.trans hc0
                have d1 := R5.out.cell (World.block_lt_of_cell? w _ hc1) |>.trans hc1
                have d2 := R5.out.cell (World.block_lt_of_cell? w _ hc2) |>.trans hc2
                have T0 := SlS.tail sa
                have T1 := fun h => SlS.tail1 sa h (some ⟨b, off, none⟩)
                have Hoy := Lib.hid (HJ.out.2.1 _ (List.mem_cons_self ..))
                go_wp2_with fail
                go_region
                all_goals go_wp2_with fail
                all_goals go_meet
                all_goals first
                  | exact Chosen.mk (by omega) (by omega) (by omega) T0 sb HN.out Hoy.out BOX.out O5.out HAP.out R5.out hsz y5
                  | exact Chosen.mk (by omega) (by omega) (by omega) (T1 (by omega)) sb HN.out Hoy.out BOX.out O5.out HAP.out R5.out hsz y5
            · match la, hla.out, sa, lb, hlb.out, sb, HJ with
              | [], hl, _, _, _, _, _ => exact absurd hl.symm (by simpa using ha)
              | _ :: _, _, _, [], hl, _, _ => exact absurd hl.symm (by simpa using hb)
              | (y1, y2, y3) :: la, hl, sa, (z1, z2, z3) :: lb, hl', sb, HJ =>
                obtain ⟨b', off', _, _, _, rfl, hx, ec0, ec1, ec2⟩ := SlS.at_ sb (k := 0) (by omega)
                simp only [List.getElem?_cons_zero, Option.some.injEq, Prod.mk.injEq] at hx
                obtain ⟨rfl, rfl, rfl⟩ := hx
                simp only [Nat.zero_mul, Nat.add_zero] at ec0 ec1 ec2
                obtain ⟨b, off, _, _, _, rfl, hx, hc0, hc1, hc2⟩ := SlS.at_ sa (k := 0) (by omega)
                simp only [List.getElem?_cons_zero, Option.some.injEq, Prod.mk.injEq] at hx
                obtain ⟨rfl, rfl, rfl⟩ := hx
                simp only [Nat.zero_mul, Nat.add_zero] at hc0 hc1 hc2
                have v1 : decide (0 < na) = true := decide_eq_true (by omega)
                have v2 : decide (0 < nb) = true := decide_eq_true (by omega)
                have v3 : ((nb : Int) == 0) = false := by simp; omega
                have v4 : (0 : Int) < (na : Int) := by omega
                have v5 : (0 : Int) < (nb : Int) := by omega
                have K0 := Ext.cell (BR0.out.cell (World.block_lt_of_cell? w _ hc0) |>.trans hc0)
                have K1 := Ext.cell (BR0.out.cell (World.block_lt_of_cell? w _ hc1) |>.trans hc1)
                have K2 := Ext.cell (BR0.out.cell (World.block_lt_of_cell? w _ hc2) |>.trans hc2)
                have K3 := Ext.cell (BR0.out.cell (World.block_lt_of_cell? w _ ec0) |>.trans ec0)
                have K4 := Ext.cell (BR0.out.cell (World.block_lt_of_cell? w _ ec1) |>.trans ec1)
                have K5 := Ext.cell (BR0.out.cell (World.block_lt_of_cell? w _ ec2) |>.trans ec2)
                clear hl hl'
                cases hbf : beforeB (y1, y2, y3) (z1, z2, z3)
                · have HN := Lib.hid (HJ.out.right (.inr ⟨_, _, rfl, hbf⟩))
                  have C0 := before_any y1 y2 y3 z1 z2 z3
                  rw [hbf] at C0
                  have C := Lib.hid C0
                  clear hbf C0
                  go_wp2_with fail
                  refine wp_region_ext (by kernel_rfl) (by kernel_rfl) ?_
                  repeat (go_big_quiet_step (((go_at_call 47; exact Calls.ext_of (C.out _)))))
                  refine wpQuiet_nil ?_
                  intro w5 hw5
                  have b5 := ext_end hw5
                  have BOX := Lib.hid (HB0.out.below b5)
                  have R5 := Lib.hid (BR0.out.trans (b5.mono BR0.out.size))
                  have O5 := Lib.hid (own_below OW0.out b5)
                  have y5 := b5.size
                  simp at y5
                  clear hw5 b5
                  have BXO := BOX.out
                  have g0 := BXO.c0
                  have g1 := BXO.c1
                  have g2 := BXO.c2
                  have g3 := BXO.fr 0
                  have g4 := BXO.fr 1
                  have g5 := BXO.fr 2
                  have g6 := BXO.lt
                  clear BXO
                  clear K0 K1 K2 K3 K4 K5 hc0 hc1 hc2
                  have d0 := R5.out.cell (World.block_lt_of_cell? w _ ec0) |>.trans ec0
                  have d1 := R5.out.cell (World.block_lt_of_cell? w _ ec1) |>.trans ec1
                  have d2 := R5.out.cell (World.block_lt_of_cell? w _ ec2) |>.trans ec2
                  have T0 := SlS.tail sb
                  have T1 := fun h => SlS.tail1 sb h (some ⟨b', off', none⟩)
                  have Hoy := Lib.hid (HJ.out.2.2.1 _ (List.mem_cons_self ..))
                  go_wp2_with fail
                  go_region
                  all_goals go_wp2_with fail
                  all_goals go_meet
                  all_goals first
                    | exact Chosen.mk (by omega) (by omega) (by omega) sa T0 HN.out Hoy.out BOX.out O5.out HAP.out R5.out hsz y5
                    | exact Chosen.mk (by omega) (by omega) (by omega) sa (T1 (by omega)) HN.out Hoy.out BOX.out O5.out HAP.out R5.out hsz y5
                · have HN := Lib.hid (HJ.out.left (.inr ⟨_, _, rfl, hbf⟩))
                  have C0 := before_any y1 y2 y3 z1 z2 z3
                  rw [hbf] at C0
                  have C := Lib.hid C0
                  clear hbf C0
                  go_wp2_with fail
                  refine wp_region_ext (by kernel_rfl) (by kernel_rfl) ?_
                  repeat (go_big_quiet_step (((go_at_call 47; exact Calls.ext_of (C.out _)))))
                  refine wpQuiet_nil ?_
                  intro w5 hw5
                  have b5 := ext_end hw5
                  have BOX := Lib.hid (HB0.out.below b5)
                  have R5 := Lib.hid (BR0.out.trans (b5.mono BR0.out.size))
                  have O5 := Lib.hid (own_below OW0.out b5)
                  have y5 := b5.size
                  simp at y5
                  clear hw5 b5
                  have BXO := BOX.out
                  have g0 := BXO.c0
                  have g1 := BXO.c1
                  have g2 := BXO.c2
                  have g3 := BXO.fr 0
                  have g4 := BXO.fr 1
                  have g5 := BXO.fr 2
                  have g6 := BXO.lt
                  clear BXO
                  clear K0 K1 K2 K3 K4 K5 ec0 ec1 ec2
                  have d0 := R5.out.cell (World.block_lt_of_cell? w _ hc0) |>.trans hc0
                  have d1 := R5.out.cell (World.block_lt_of_cell? w _ hc1) |>.trans hc1
                  have d2 := R5.out.cell (World.block_lt_of_cell? w _ hc2) |>.trans hc2
                  have T0 := SlS.tail sa
                  have T1 := fun h => SlS.tail1 sa h (some ⟨b, off, none⟩)
                  have Hoy := Lib.hid (HJ.out.2.1 _ (List.mem_cons_self ..))
                  go_wp2_with fail
                  go_region
                  all_goals go_wp2_with fail
                  all_goals go_meet
                  all_goals first
                    | exact Chosen.mk (by omega) (by omega) (by omega) T0 sb HN.out Hoy.out BOX.out O5.out HAP.out R5.out hsz y5
                    | exact Chosen.mk (by omega) (by omega) (by omega) (T1 (by omega)) sb HN.out Hoy.out BOX.out O5.out HAP.out R5.out hsz y5
        case rest =>
          obtain ⟨A', na', ca', B', nb', cb', la', lb', x1, x2, x3, rfl, rfl, hlt, hna', hnb', sa', sb', HJ', hx, hbox, hown, hbel, hsz'⟩ := hcut
          have x0 := hbox.c0
          have x1' := hbox.c1
          have x2' := hbox.c2
          have xl := hbox.lt
          have hz := hbel.size
          have HBX := Lib.hid hbox
          have hap := HAP.out
          have HJ2 := Lib.hid HJ'
          have HX := Lib.hid hx
          unfold okSp at hx
          obtain ⟨q1, q2, q3, q4, q5⟩ := hx
          simp only at q1 q2 q3 q4 q5
          have HO := Lib.hid HJ.out.2.2.2.1
          clear HB0 BR0 OW0 HJ HAP hla hlb sa sb HJ' hbox
          rcases List.eq_nil_or_concat out with rfl | ⟨o, z, rfl⟩
          · have v0 : decide (0 < m) = false := decide_eq_false (by have := hm.out; simp at this; omega)
            have HP := Lib.hid (pushS_nil (x1, x2, x3))
            go_wp2_with fail
            go_quiet (fail)
            go_wp2_with (at_builtin; refine wpList_append_own _ rfl _ _ 26 rfl (w2.heap.size) 42 i0 (.agg #[.int .i64 0, .int .i64 0, .int .i64 0]) 3 24 Try.underlying26 hi hz0 hz1 hz2 rfl (by decide) _ _ _ rfl (World.ownsRow.alloc ((own_drewN hown nq)) _) ⟨wc.heap.size, 0, none⟩ 1 1 _ rfl rfl (cell_three_at _ _ _ _ _ _ rfl) (by intro u hu; simp at hu; rcases hu with rfl | rfl | rfl <;> rfl) (by unfold maxLen; omega) (by omega) (by simp; omega) ?_)
            intro v' w6 hown' hgrow _
            have R1 := own_span hown' (by have := hm.out; simp at this ⊢; omega) (show [] ++ [(x1, x2, x3)] = _ from rfl)
            have R2 := below_push (below_drewN hbel nq) (own_drewN hown nq) hgrow hz (by omega)
            have hz6 := hgrow.size
            simp at hz6
            obtain ⟨A6, c6, rfl, hs6, hc6⟩ := own_take R1
            clear hown' hgrow hown hbel hs6 x0 x1' x2'
            skip
            go_wp2
            go_roundg (na' + nb')
            case measure => omega
            case rel => exact ⟨A', na', ca', B', nb', cb', A6, _, c6, la', lb', _, rfl, rfl, rfl, rfl, hna', hnb', hc6, sa', sb', by have := HJ2.out; rw [HP.out] at this; exact this, R1, R2, by omega⟩
          · rw [List.concat_eq_append] at *
            have hmo : m = o.length + 1 := by have := hm.out; simp at this; omega
            obtain ⟨g, cap, hv, _, hglt⟩ := hown.form (by omega)
            injection hv with hv1 hv2 hv3
            subst hv1 hv3
            obtain ⟨z1, z2, z3⟩ := z
            have hoz := HO.out (z1, z2, z3) (by simp)
            unfold okSp at hoz
            obtain ⟨r1, r2, r3, r4, r5⟩ := hoz
            simp only at r1 r2 r3 r4 r5
            have hzz : (o ++ [(z1, z2, z3)])[m - 1]? = some (z1, z2, z3) := by rw [hmo]; simp
            obtain ⟨t0, t1, t2⟩ := SlS.cells_at (Sl.of_own hown) hzz
            simp only [Nat.zero_add] at t0 t1 t2
            have Hmo := Lib.hid hmo
            have m0 : 0 < m := by omega
            have v0 : decide (0 < m) = true := decide_eq_true m0
            have i0' : (0 : Int) ≤ (m : Int) - 1 := by omega
            have i1 : (1 : Int) ≤ (m : Int) := by omega
            have i2 : (m : Int) - 1 < (m : Int) := by omega
            have i3 : ((m : Int) - 1).toNat = m - 1 := by omega
            have i4 : IntKind.i64.wrap ((m : Int) - 1) = (m : Int) - 1 := IntWalk.i64_in _ (by omega)
            have i5 : IntKind.i64.wrap (z3 + 1) = z3 + 1 := IntWalk.i64_in _ (by omega)
            clear hmo hzz
            by_cases s1 : z1 = x1
            · subst s1
              have v1 : (z1 == z1) = true := beq_self_eq_true _
              by_cases s2 : x2 ≤ z3 + 1
              · have v2 : decide (x2 ≤ z3 + 1) = true := decide_eq_true s2
                have HP0 := pushS_snoc o (z1, z2, z3) (z1, x2, x3)
                rw [if_pos ⟨rfl, s2⟩] at HP0
                simp only at HP0
                by_cases s3 : z3 < x3
                · rw [show max z3 x3 = x3 by omega] at HP0
                  have HP := Lib.hid HP0
                  obtain ⟨R1, R2⟩ := hown.stored ((m - 1) * 3 + 2) (.int .i64 x3)
                  rw [show m - 1 = o.length by have := Hmo.out; omega, spV_set, show o.length = m - 1 by have := Hmo.out; omega] at R1
                  have R3 := Lib.hid (hbel.grown R2 hz (fun q hq => by have := (hown.lt q hq).1; omega))
                  have fz := hown.frozenAt ((m - 1) * 3 + 2)
                  have R1 := Lib.hid R1
                  clear HP0 R2 hown s2
                  go_wp2_with fail
                  go_quiet (fail)
                  go_wp2_with fail
                  go_region
                  all_goals clear v0 v1 v2 i0' i1 i2 i3 i4 i5 t0 t1 t2 fz x0 x1' x2'
                  all_goals go_wp2
                  all_goals go_roundg (na' + nb')
                  case measure => omega
                  case rel => exact ⟨A', na', ca', B', nb', cb', some ⟨g, 0, none⟩, m, co, la', lb', _, rfl, rfl, rfl, rfl, hna', hnb', hco, sa', sb', by have := HJ2.out; rw [HP.out] at this; exact this, R1.out, below_drewN R3.out nq |>.drew, by simp [World.setCell]; omega⟩
                · rw [show max z3 x3 = z3 by omega] at HP0
                  have HP := Lib.hid HP0
                  obtain ⟨R1, R2⟩ := hown.stored ((m - 1) * 3 + 2) (.int .i64 z3)
                  rw [show m - 1 = o.length by have := Hmo.out; omega, spV_set, show o.length = m - 1 by have := Hmo.out; omega] at R1
                  have R3 := Lib.hid (hbel.grown R2 hz (fun q hq => by have := (hown.lt q hq).1; omega))
                  have fz := hown.frozenAt ((m - 1) * 3 + 2)
                  have R1 := Lib.hid R1
                  clear HP0 R2 hown s2
                  go_wp2_with fail
                  go_quiet (fail)
                  go_wp2_with fail
                  go_region
                  all_goals clear v0 v1 v2 i0' i1 i2 i3 i4 i5 t0 t1 t2 fz x0 x1' x2'
                  all_goals go_wp2
                  all_goals go_roundg (na' + nb')
                  case measure => omega
                  case rel => exact ⟨A', na', ca', B', nb', cb', some ⟨g, 0, none⟩, m, co, la', lb', _, rfl, rfl, rfl, rfl, hna', hnb', hco, sa', sb', by have := HJ2.out; rw [HP.out] at this; exact this, R1.out, below_drewN R3.out nq |>.drew, by simp [World.setCell]; omega⟩
              · have v2 : decide (x2 ≤ z3 + 1) = false := decide_eq_false s2
                have HP : Hid (pushS (o ++ [(z1, z2, z3)]) (z1, x2, x3) = o ++ [(z1, z2, z3)] ++ [(z1, x2, x3)]) := by
                  show _ = _
                  rw [pushS_snoc, if_neg (fun h => s2 h.2)]
                clear s2
                go_wp2_with fail
                go_quiet (fail)
                clear v0 v1 v2 i0' i1 i2 i3 i4 i5
                go_wp2_with (at_builtin; refine wpList_append_own _ rfl _ _ 26 rfl (w2.heap.size) 42 i0 (.agg #[.int .i64 0, .int .i64 0, .int .i64 0]) 3 24 Try.underlying26 hi hz0 hz1 hz2 rfl (by decide) _ _ _ rfl (World.ownsRow.alloc ((own_drewN hown nq)) _) ⟨wc.heap.size, 0, none⟩ 1 1 _ rfl rfl (cell_three_at _ _ _ _ _ _ rfl) (by intro u hu; simp at hu; rcases hu with rfl | rfl | rfl <;> rfl) (by unfold maxLen; omega) (by omega) (by simp; omega) ?_)
                intro v' w6 hown' hgrow _
                have R1 := own_span hown' (by have := hm.out; simp at this ⊢; omega) (show (o ++ [(z1, z2, z3)]) ++ [(z1, x2, x3)] = _ from rfl)
                have R2 := below_push (below_drewN hbel nq) (own_drewN hown nq) hgrow hz (by omega)
                have hz6 := hgrow.size
                simp at hz6
                obtain ⟨A6, c6, rfl, hs6, hc6⟩ := own_take R1
                clear hown' hgrow hown hbel hs6 x0 x1' x2' t0 t1 t2
                go_wp2
                go_roundg (na' + nb')
                case measure => omega
                case rel => exact ⟨A', na', ca', B', nb', cb', A6, _, c6, la', lb', _, rfl, rfl, rfl, rfl, hna', hnb', hc6, sa', sb', by have := HJ2.out; rw [HP.out] at this; exact this, R1, R2, by omega⟩
            · have v1 : (z1 == x1) = false := beq_eq_false_iff_ne.2 s1
              have HP : Hid (pushS (o ++ [(z1, z2, z3)]) (x1, x2, x3) = o ++ [(z1, z2, z3)] ++ [(x1, x2, x3)]) := by
                show _ = _
                rw [pushS_snoc, if_neg (fun h => s1 h.1)]
              clear s1
              go_wp2_with fail
              go_quiet (fail)
              clear v0 v1 i0' i1 i2 i3 i4 i5
              go_wp2_with (at_builtin; refine wpList_append_own _ rfl _ _ 26 rfl (w2.heap.size) 42 i0 (.agg #[.int .i64 0, .int .i64 0, .int .i64 0]) 3 24 Try.underlying26 hi hz0 hz1 hz2 rfl (by decide) _ _ _ rfl (World.ownsRow.alloc ((own_drewN hown nq)) _) ⟨wc.heap.size, 0, none⟩ 1 1 _ rfl rfl (cell_three_at _ _ _ _ _ _ rfl) (by intro u hu; simp at hu; rcases hu with rfl | rfl | rfl <;> rfl) (by unfold maxLen; omega) (by omega) (by simp; omega) ?_)
              intro v' w6 hown' hgrow _
              have R1 := own_span hown' (by have := hm.out; simp at this ⊢; omega) (show (o ++ [(z1, z2, z3)]) ++ [(x1, x2, x3)] = _ from rfl)
              have R2 := below_push (below_drewN hbel nq) (own_drewN hown nq) hgrow hz (by omega)
              have hz6 := hgrow.size
              simp at hz6
              obtain ⟨A6, c6, rfl, hs6, hc6⟩ := own_take R1
              clear hown' hgrow hown hbel hs6 x0 x1' x2' t0 t1 t2
              go_wp2
              go_roundg (na' + nb')
              case measure => omega
              case rel => exact ⟨A', na', ca', B', nb', cb', A6, _, c6, la', lb', _, rfl, rfl, rfl, rfl, hna', hnb', hc6, sa', sb', by have := HJ2.out; rw [HP.out] at this; exact this, R1, R2, by omega⟩
end Go.Proofs.Ytlcfknpmnoghbaa
