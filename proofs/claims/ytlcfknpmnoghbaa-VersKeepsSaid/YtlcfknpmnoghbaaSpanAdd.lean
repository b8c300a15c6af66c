/-
  span.Add and firthref03.Add: a dot more.
-/
import Derived.Test.YtlcfknpmnoghbaaSpanJoin
namespace Go.Proofs.Ytlcfknpmnoghbaa
open Go.RowKit
set_option linter.unusedVariables false

noncomputable def addSL (l : List Sp) (s n : Int) : List Sp := if dotB s n = true then joinSL l [(s, n, n)] else []
noncomputable def addSE (l : List Sp) (s n : Int) : Int := if dotB s n = true then joinSE l [(s, n, n)] else 1
theorem addS_no {l : List Sp} {s n : Int} (h : dotB s n = false) : addSL l s n = [] ∧ addSE l s n = 1 := by unfold addSL addSE; rw [h]; exact ⟨rfl, rfl⟩
theorem addS_yes {l : List Sp} {s n : Int} (h : dotB s n = true) : addSL l s n = joinSL l [(s, n, n)] ∧ addSE l s n = joinSE l [(s, n, n)] := by unfold addSL addSE; rw [h]; exact ⟨rfl, rfl⟩
theorem NewSpansE.wide {w w0 w' : World} {l : List Sp} {x : Int} {e : Ending} (h : NewSpansE w0 l x e w') (b : Below w.heap.size w w0) : NewSpansE w l x e w' := by
  obtain ⟨A, n, c, h1, h2, h3, h4, h5⟩ := h
  exact ⟨A, n, c, h1, h2, h3, own_lower h4 b.size, b.trans (h5.mono b.size)⟩
theorem sl_one (w : World) (x y z : Int) (t : TypeId) : SlS (w.alloc (.cells #[.int .i64 x, .int .i64 y, .int .i64 z] t)) (some ⟨w.heap.size, 0, none⟩) 1 [(x, y, z)] :=
  ⟨rfl, fun _ => ⟨w.heap.size, 0, rfl, fun j u hu => by
    have := cell_three_new w (.int .i64 x) (.int .i64 y) (.int .i64 z) t j u hu
    rwa [add_plain'] at this⟩⟩


set_option maxHeartbeats 2000000 in
set_option maxRecDepth 100000 in
theorem spanAdd_any (A : Option Addr) (n c : Nat) (l : List Sp) (s m : Int) (w : World) (h : SlS w A n l) (hn : n ≤ 140737488351232) (hc : n ≤ c) :
    Calls Try.prog 43 #[.slice A n c, .agg #[.int .i64 s, .int .i64 m]] w (NewSpansE w (addSL l s m) (addSE l s m)) := by
  have HB0 := Lib.hid (Box2.new w 25 s m)
  have BL0 : Below w.heap.size w (w.alloc (.cells #[.int .i64 s, .int .i64 m] 25)) := (Below.refl _ _).alloc (Nat.le_refl _) _
  have HL0 := Lib.hid BL0
  have C1 := fun W => spanDot_any s m W
  cases hd : dotB s m
  · obtain ⟨f1, f2⟩ := addS_no (l := l) hd
    rw [f1, f2]
    simp only [hd] at C1
    have D1 := Lib.hid C1
    clear C1 hd f1 f2 BL0
    go_enter Try.func43, Try.ntmps43
    go_wp2_with fail
    refine (D1.out _).mono ?_
    rintro e w1 ⟨rfl, b1⟩
    go_wp2
    go_ret2
    exact NewSpansE.nil (HL0.out.trans (b1.mono HL0.out.size))
  · obtain ⟨f1, f2⟩ := addS_yes (l := l) hd
    rw [f1, f2]
    simp only [hd] at C1
    have D1 := Lib.hid C1
    clear C1 hd f1 f2 BL0
    go_enter Try.func43, Try.ntmps43
    go_wp2_with fail
    refine (D1.out _).mono ?_
    rintro e w1 ⟨rfl, b1⟩
    have g0 := (b1.cell (World.block_lt_of_cell? _ _ HB0.out.c0)).trans HB0.out.c0
    have g1 := (b1.cell (World.block_lt_of_cell? _ _ HB0.out.c1)).trans HB0.out.c1
    have R1 := HL0.out.trans (b1.mono HL0.out.size)
    have R2 := R1.alloc R1.size (.cells #[.int .i64 s, .int .i64 m, .int .i64 m] 42)
    have HJ := Lib.hid (spanJoin_any A (some ⟨w1.heap.size, 0, none⟩) n 1 c 1 l [(s, m, m)] _ (Sl.below h R2) (sl_one w1 s m m 42) hn (by omega) hc (Nat.le_refl _))
    have HR2 := Lib.hid R2
    have gl := R1.size
    clear b1 R1 R2 D1
    go_wp2_with fail
    refine HJ.out.mono ?_
    intro e w3 h3
    obtain ⟨A3, n3, c3, rfl, s3, hc3, own3, b3⟩ := NewSpansE.wide h3 HR2.out
    clear h3 HJ
    go_wp2
    go_ret2
    exact ⟨A3, n3, c3, rfl, s3, hc3, own3, b3⟩

end Go.Proofs.Ytlcfknpmnoghbaa
