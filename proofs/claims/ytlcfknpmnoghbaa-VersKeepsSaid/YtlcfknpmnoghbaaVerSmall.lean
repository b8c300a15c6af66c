/-
  Which of two dots comes first; did a version come behind a dot: the program's answers and the document's.
-/
import Derived.Test.YtlcfknpmnoghbaaVerPlain
namespace Go.Proofs.Ytlcfknpmnoghbaa
open Go.RowKit
set_option linter.unusedVariables false

theorem Box2.below {w w' : World} {g : Nat} {t : TypeId} {x y : Int} (h : Box2 w g t x y) (b : Below w.heap.size w w') : Box2 w' g t x y := (b.block g h.lt).trans h
theorem Box2.drewN {w : World} {g : Nat} {t : TypeId} {x y : Int} (h : Box2 w g t x y) (k : Nat) : Box2 (w.drewN k) g t x y := h
theorem two_below (w : World) (s n s' n' : Int) : Below w.heap.size w ((w.alloc (.cells #[.int .i64 s, .int .i64 n] 25)).alloc (.cells #[.int .i64 s', .int .i64 n'] 25)) :=
  have h := (Below.refl w.heap.size w).alloc (Nat.le_refl _) (.cells #[.int .i64 s, .int .i64 n] 25)
  h.alloc h.size _
set_option maxHeartbeats 1000000 in
set_option maxRecDepth 100000 in
theorem verBefore_any (s n s' n' : Int) (w : World) :
    Calls Try.prog 32 #[.agg #[.int .i64 s, .int .i64 n], .agg #[.int .i64 s', .int .i64 n']] w fun e w' => e = .returned (.bool (dltB s n s' n')) ∧ Below w.heap.size w w' := by
  have h := Lib.hid (two_below w s n s' n')
  by_cases h1 : s < s'
  · have hd := Lib.hid (dltB_yes (n := n) (n' := n') (.inl h1))
    have h3 : ¬ s = s' := by omega
    have h4 : (s == s') = false := by simpa using h3
    go_enter Try.func32, Try.ntmps32
    go_wp2
    go_ret
    exact ⟨retb hd.out, h.out⟩
  · by_cases h2 : s = s'
    · subst h2
      by_cases h3 : n < n'
      · have hd := Lib.hid (dltB_yes (s := s) (s' := s) (.inr ⟨rfl, h3⟩))
        go_enter Try.func32, Try.ntmps32
        go_wp2
        go_ret
        exact ⟨retb hd.out, h.out⟩
      · have hd := Lib.hid (dltB_no (s := s) (s' := s) (n := n) (n' := n') (by omega))
        go_enter Try.func32, Try.ntmps32
        go_wp2
        go_ret
        exact ⟨retb hd.out, h.out⟩
    · have hd := Lib.hid (dltB_no (s := s) (s' := s') (n := n) (n' := n') (by omega))
      have h4 : (s == s') = false := by simpa using h2
      go_enter Try.func32, Try.ntmps32
      go_wp2
      go_ret
      exact ⟨retb hd.out, h.out⟩
set_option maxHeartbeats 1000000 in
set_option maxRecDepth 100000 in
theorem refLess_any (s n s' n' : Int) (w : World) :
    Calls Try.prog 34 #[.agg #[.int .i64 s, .int .i64 n], .agg #[.int .i64 s', .int .i64 n']] w fun e w' => e = .returned (.bool (dltB s n s' n')) ∧ Below w.heap.size w w' := by
  have h := Lib.hid (two_below w s n s' n')
  by_cases h1 : s < s'
  · have hd := Lib.hid (dltB_yes (n := n) (n' := n') (.inl h1))
    have h3 : ¬ s = s' := by omega
    have h4 : (s == s') = false := by simpa using h3
    go_enter Try.func34, Try.ntmps34
    go_wp2
    go_ret
    exact ⟨retb hd.out, h.out⟩
  · by_cases h2 : s = s'
    · subst h2
      by_cases h3 : n < n'
      · have hd := Lib.hid (dltB_yes (s := s) (s' := s) (.inr ⟨rfl, h3⟩))
        go_enter Try.func34, Try.ntmps34
        go_wp2
        go_ret
        exact ⟨retb hd.out, h.out⟩
      · have hd := Lib.hid (dltB_no (s := s) (s' := s) (n := n) (n' := n') (by omega))
        go_enter Try.func34, Try.ntmps34
        go_wp2
        go_ret
        exact ⟨retb hd.out, h.out⟩
    · have hd := Lib.hid (dltB_no (s := s) (s' := s') (n := n) (n' := n') (by omega))
      have h4 : (s == s') = false := by simpa using h2
      go_enter Try.func34, Try.ntmps34
      go_wp2
      go_ret
      exact ⟨retb hd.out, h.out⟩

set_option maxHeartbeats 1000000 in
set_option maxRecDepth 100000 in
theorem verBehind_any (A : Option Addr) (n c : Nat) (l : List Vr) (s m : Int) (w : World) (hv : SlV w A n l) (hn : n ≤ 140737488351232) :
    Calls Try.prog 33 #[.agg #[.int .i64 s, .int .i64 m], .slice A n c] w fun e w' => e = .returned (.bool (behB l s m)) ∧ Below w.heap.size w w' := by
  have hll := hv.len
  have HB0 := Lib.hid (Box2.new w 25 s m)
  have BL0 : Below w.heap.size w (w.alloc (.cells #[.int .i64 s, .int .i64 m] 25)) := (Below.refl _ _).alloc (Nat.le_refl _) _
  have HL0 := Lib.hid BL0
  clear BL0
  go_enter Try.func33, Try.ntmps33
  go_wp2
  go_loopw [9] (fun i wr => ∃ (k : Nat), i = .int .i64 (k : Int) ∧ k ≤ n ∧ Hid (BehTo l s m k) ∧ Hid (Box2 wr w.heap.size 25 s m) ∧ Below w.heap.size w wr) (fun i _ => n - (intOf i).toNat)
  case atStart => exact ⟨0, rfl, Nat.zero_le _, BehTo.start l s m, HB0, HL0.out⟩
  case round =>
    obtain ⟨k, rfl, hk, Hok, Hbox, hbel⟩ := hrel
    have hsz := hbel.size
    by_cases hlt : k < n
    · obtain ⟨b, off, v, Ap, np, cp, rfl, hx, hr, hc0, hc1, hc2, hc3, hc4⟩ := (hv.below hbel).at_ hlt
      have Hx := Lib.hid hx
      have R2 := Lib.hid (hbel.alloc hsz (.cells #[.int .i64 v.s, .int .i64 v.n, .slice Ap np cp, .bool v.gone, .string v.val] 28))
      have HX2 := Hbox.out.alloc (.cells #[.int .i64 v.s, .int .i64 v.n, .slice Ap np cp, .bool v.gone, .string v.val] 28)
      have g0 := HX2.c0
      have g1 := HX2.c1
      have HX3 := Lib.hid HX2
      have HC := spanHas_any Ap np cp v.past s m _ (Sl.alloc hr.sl (.cells #[.int .i64 v.s, .int .i64 v.n, .slice Ap np cp, .bool v.gone, .string v.val] 28)) hr.n9
      clear hx hr HX2
      cases hh : hasB v.past s m
      · rw [hh] at HC
        have HC := Lib.hid HC
        have HS := Lib.hid (Hok.out.step Hx.out hh)
        clear hh
        go_wp2_with fail
        refine HC.out.mono ?_
        rintro e w1 ⟨rfl, b1⟩
        have HX4 := Lib.hid (HX3.out.below b1)
        have R4 := Lib.hid (R2.out.trans (b1.mono R2.out.size))
        clear g0 g1 HC b1
        go_wp2
        go_roundw
        case rel => exact ⟨k + 1, by go_num, by omega, HS.out, HX4, R4.out⟩
        case measure => simp [intOf]; omega
      · rw [hh] at HC
        have HC := Lib.hid HC
        have HS := Lib.hid (BehTo.hit Hx.out hh)
        clear hh
        go_wp2_with fail
        refine HC.out.mono ?_
        rintro e w1 ⟨rfl, b1⟩
        have R4 := Lib.hid (R2.out.trans (b1.mono R2.out.size))
        clear g0 g1 HC b1
        go_wp2
        go_ret
        exact ⟨retb HS.out, R4.out⟩
    · obtain rfl : k = n := by omega
      go_wp2
      go_ret
      exact ⟨retb (Hok.out.all hll), hbel⟩

set_option maxHeartbeats 1000000 in
set_option maxRecDepth 100000 in
theorem refBehind_any (A : Option Addr) (n c : Nat) (l : List Vr) (s m : Int) (w : World) (hv : SlV w A n l) (hn : n ≤ 140737488351232) :
    Calls Try.prog 20 #[.slice A n c, .agg #[.int .i64 s, .int .i64 m]] w fun e w' => e = .returned (.bool (behB l s m)) ∧ Below w.heap.size w w' := by
  have hll := hv.len
  have HB0 := Lib.hid (Box2.new w 25 s m)
  have BL0 : Below w.heap.size w (w.alloc (.cells #[.int .i64 s, .int .i64 m] 25)) := (Below.refl _ _).alloc (Nat.le_refl _) _
  have HL0 := Lib.hid BL0
  clear BL0
  go_enter Try.func20, Try.ntmps20
  go_wp2
  go_loopw [5] (fun i wr => ∃ (k : Nat), i = .int .i64 (k : Int) ∧ k ≤ n ∧ Hid (BehTo l s m k) ∧ Hid (Box2 wr w.heap.size 25 s m) ∧ Below w.heap.size w wr) (fun i _ => n - (intOf i).toNat)
  case atStart => exact ⟨0, rfl, Nat.zero_le _, BehTo.start l s m, HB0, HL0.out⟩
  case round =>
    obtain ⟨k, rfl, hk, Hok, Hbox, hbel⟩ := hrel
    have hsz := hbel.size
    by_cases hlt : k < n
    · obtain ⟨b, off, v, Ap, np, cp, rfl, hx, hr, hc0, hc1, hc2, hc3, hc4⟩ := (hv.below hbel).at_ hlt
      have Hx := Lib.hid hx
      have G0 := Ext.cell hc2
      have G1 := Ext.cell Hbox.out.c0
      have G2 := Ext.cell Hbox.out.c1
      have HC := fun x : Ext wr => refHas_any Ap np cp v.past s m x.w (Sl.below hr.sl x.below) hr.n9
      have j0 : (0 : Int) ≤ (k : Int) := by omega
      have j1 : (k : Int) < (n : Int) := by omega
      clear hx hr hc0 hc1 hc2 hc3 hc4
      cases hh : hasB v.past s m
      · simp only [hh] at HC
        have HC := Lib.hid HC
        have HS := Lib.hid (Hok.out.step Hx.out hh)
        clear hh
        go_wp2_with fail
        refine wp_region_ext (by kernel_rfl) (by kernel_rfl) ?_
        repeat (go_big_quiet_step ((go_at_call 40; exact Calls.ext_of (HC.out _))))
        refine wpQuiet_nil ?_
        intro w1 hw1
        have b1 := ext_end hw1
        have HX4 := Lib.hid (Hbox.out.below b1)
        have R4 := Lib.hid (hbel.trans (b1.mono hsz))
        clear hw1 G0 G1 G2 b1
        go_wp2
        go_roundw
        case rel => exact ⟨k + 1, by go_num, by omega, HS.out, HX4, R4.out⟩
        case measure => simp [intOf]; omega
      · simp only [hh] at HC
        have HC := Lib.hid HC
        have HS := Lib.hid (BehTo.hit Hx.out hh)
        clear hh
        go_wp2_with fail
        refine wp_region_ext (by kernel_rfl) (by kernel_rfl) ?_
        repeat (go_big_quiet_step ((go_at_call 40; exact Calls.ext_of (HC.out _))))
        refine wpQuiet_nil ?_
        intro w1 hw1
        have b1 := ext_end hw1
        have R4 := Lib.hid (hbel.trans (b1.mono hsz))
        clear hw1 G0 G1 G2 b1
        go_wp2
        go_ret
        exact ⟨retb HS.out, R4.out⟩
    · obtain rfl : k = n := by omega
      go_wp2
      go_ret
      exact ⟨retb (Hok.out.all hll), hbel⟩
end Go.Proofs.Ytlcfknpmnoghbaa
