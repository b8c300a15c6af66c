/-
  firthref05.put: a version laid where its dot belongs.
-/
import Derived.Test.YtlcfknpmnoghbaaVerMerge
import Derived.Test.YtlcfknpmnoghbaaVerRefRight
namespace Go.Proofs.Ytlcfknpmnoghbaa
open Go.RowKit
set_option linter.unusedVariables false

theorem flat_take (rows : List RV) (k : Nat) : (rows.flatMap vV1).take (k * 5) = (rows.take k).flatMap vV1 := by
  induction rows generalizing k with
  | nil => simp
  | cons y r ih =>
    cases k with
    | zero => simp
    | succ k =>
      rw [List.flatMap_cons, List.take_succ_cons, List.flatMap_cons, ← ih, List.take_append, vV1_len, List.take_of_length_le (by rw [vV1_len]; omega), show (k + 1) * 5 - 5 = k * 5 by omega]
theorem flat_drop (rows : List RV) (k : Nat) : (rows.flatMap vV1).drop (k * 5) = (rows.drop k).flatMap vV1 := by
  induction rows generalizing k with
  | nil => simp
  | cons y r ih =>
    cases k with
    | zero => simp
    | succ k =>
      rw [List.flatMap_cons, List.drop_succ_cons, ← ih, List.drop_append, vV1_len, List.drop_of_length_le (by rw [vV1_len]; omega), show (k + 1) * 5 - 5 = k * 5 by omega, List.nil_append]
def AtTo (l : List Vr) (v : Vr) (k : Nat) : Prop := ∀ j x, j < k → l[j]? = some x → dltB x.s x.n v.s v.n = true
theorem AtTo.start (l : List Vr) (v : Vr) : AtTo l v 0 := fun j x hj => absurd hj (by omega)
theorem AtTo.step {l : List Vr} {v x : Vr} {k : Nat} (h : AtTo l v k) (hx : l[k]? = some x) (hd : dltB x.s x.n v.s v.n = true) : AtTo l v (k + 1) := fun j y hj hy => by
  rcases Nat.lt_or_ge j k with h1 | h1
  · exact h j y h1 hy
  · obtain rfl : j = k := by omega
    rw [hx] at hy
    obtain rfl := Option.some.inj hy
    exact hd
theorem AtTo.stop : ∀ {l : List Vr} {v : Vr} {k : Nat}, AtTo l v k → k ≤ l.length → (∀ x, l[k]? = some x → dltB x.s x.n v.s v.n = false) → atV l v = k
  | [], v, k, h, hk, hs => by simp at hk; subst hk; rfl
  | y :: r, v, k, h, hk, hs => by
    unfold atV
    cases k with
    | zero => rw [if_neg (by rw [hs y rfl]; decide)]
    | succ k =>
      rw [if_pos (h 0 y (by omega) rfl), AtTo.stop (l := r) (v := v) (k := k) (fun j x hj hx => h (j + 1) x (by omega) (by simpa using hx)) (by simpa using hk) (fun x hx => hs x (by simpa using hx))]
theorem putV_hit {l : List Vr} {v y : Vr} {k : Nat} (h : atV l v = k) (hy : l[k]? = some y) (he : decide (y.s = v.s ∧ y.n = v.n) = true) : putV l v = l := by
  unfold putV
  subst h
  rw [hitV_some hy, if_pos he]
theorem putV_end {l : List Vr} {v : Vr} {k : Nat} (h : atV l v = k) (hk : l.length ≤ k) : putV l v = l.take k ++ [v] ++ l.drop k := by
  unfold putV
  subst h
  rw [hitV_none hk, if_neg (by decide)]
theorem putV_new {l : List Vr} {v y : Vr} {k : Nat} (h : atV l v = k) (hy : l[k]? = some y) (he : decide (y.s = v.s ∧ y.n = v.n) = false) : putV l v = l.take k ++ [v] ++ l.drop k := by
  unfold putV
  subst h
  rw [hitV_some hy, if_neg (by rw [he]; decide)]
/-- What a call leaves that answers versions: the slice is not nil where there are any. -/
def SomeVers (w : World) (l : List Vr) (e : Ending) (w' : World) : Prop :=
  ∃ A n c, e = .returned (.slice A n c) ∧ SlV w' A n l ∧ n ≤ c ∧ (n = 0 → A = none ∧ c = 0) ∧ Below w.heap.size w w'
theorem put_rows {w w' : World} {A : Option Addr} {n c : Nat} {rows : List RV} {k : Nat} {v : Vr} {Ap : Option Addr} {np cp : Nat} (hb : Below w.heap.size w w') (h3 : ∀ y, y ∈ rows → VRow w y.1 y.2.1 y.2.2.1 y.2.2.2) (hr : VRow w v Ap np cp)
    (own : w'.ownsRow w.heap.size 28 5 (.slice A n c) n ((rows.take k).flatMap vV1 ++ (vV1 (v, Ap, np, cp) ++ (rows.drop k).flatMap vV1))) (hn : 0 < n) : SomeVers w ((rows.map (·.1)).take k ++ [v] ++ (rows.map (·.1)).drop k) (.returned (.slice A n c)) w' := by
  refine ⟨A, n, c, rfl, ⟨rows.take k ++ [(v, Ap, np, cp)] ++ rows.drop k, by simp, ?_, fun y hy => ?_⟩, ?_, fun h => by omega, hb⟩
  · have := Sl.of_own own
    simpa using this
  · rcases List.mem_append.1 hy with hy | hy
    · rcases List.mem_append.1 hy with hy | hy
      · exact (h3 y (List.mem_of_mem_take hy)).below hb
      · rw [List.mem_singleton.1 hy]; exact hr.below hb
    · exact (h3 y (List.mem_of_mem_drop hy)).below hb
  · rcases own.2 with ⟨e, rfl⟩ | ⟨g, cap, cur, e, _, _, h1, _⟩
    · omega
    · injection e with _ _ e3; omega

set_option maxHeartbeats 4000000 in
set_option maxRecDepth 100000 in
theorem refPut_any (A : Option Addr) (n c : Nat) (l : List Vr) (v : Vr) (Ap : Option Addr) (np cp : Nat) (w : World) (hl : SlV w A n l) (hr : VRow w v Ap np cp) (hn : n ≤ 4096) (hc : n ≤ c) (hA : n = 0 → A = none ∧ c = 0) :
    Calls Try.prog 39 #[.slice A n c, .agg #[.int .i64 v.s, .int .i64 v.n, .slice Ap np cp, .bool v.gone, .string v.val]] w (SomeVers w (putV l v)) := by
  obtain ⟨i0, hi, hz0, hz1, hz2⟩ := info_parts Try.infoVer
  have hll := hl.len
  have HX0 := Lib.hid (OneC.start w v Ap np cp hr.sl)
  have HR := Lib.hid hr
  obtain ⟨rows, hmap, hsl, hrows⟩ := id hl
  have H3 := Lib.hid hrows
  have HSL := Lib.hid hsl
  have HL := Lib.hid hl
  have HMAP := Lib.hid hmap
  clear hl hr hsl hrows hmap
  go_enter Try.func39, Try.ntmps39
  go_wp2
  go_loopw [5] (fun i wr => ∃ (k : Nat), i = .int .i64 (k : Int) ∧ k ≤ n ∧ Hid (AtTo l v k) ∧ Hid (BoxV wr w.heap.size v Ap np cp) ∧ Hid (Below w.heap.size w wr)) (fun i _ => n - (intOf i).toNat)
  case atStart => exact ⟨0, rfl, Nat.zero_le _, AtTo.start l v, HX0.out.1, HX0.out.2.2⟩
  case round =>
    obtain ⟨k, rfl, hk, Hok, Hbox, hbel⟩ := hrel
    have hsz := hbel.out.size
    by_cases hlt : k < n
    · obtain ⟨b, off, y, Ay, ny, cy, e0, hy, hry, hc0, hc1, hc2, hc3, hc4⟩ := (HL.out.below hbel.out).at_ hlt
      subst e0
      have HY := Lib.hid hy
      have G0 := Ext.cell hc0
      have G1 := Ext.cell hc1
      have G2 := Ext.cell Hbox.out.c0
      have G3 := Ext.cell Hbox.out.c1
      have K0 := Lib.hid (And.intro hc0 hc1)
      have HC := fun x : Ext wr => refLess_any y.s y.n v.s v.n x.w
      have j0 : (0 : Int) ≤ (k : Int) := by omega
      have j1 : (k : Int) < (n : Int) := by omega
      clear hy hry hc0 hc1 hc2 hc3 hc4
      cases hh : dltB y.s y.n v.s v.n
      · simp only [hh] at HC
        have HC := Lib.hid HC
        have HAT := Lib.hid (Hok.out.stop (by omega) (fun x hx => by rw [HY.out] at hx; obtain rfl := Option.some.inj hx; exact hh))
        clear hh
        go_wp2_with fail
        refine wp_region_ext (by kernel_rfl) (by kernel_rfl) ?_
        repeat (go_big_quiet_step ((go_at_call 34; exact Calls.ext_of (HC.out _))))
        refine wpQuiet_nil ?_
        intro w1 hw1
        have b1 := ext_end hw1
        have HB1 := Lib.hid (hbel.out.trans (b1.mono hsz))
        have HV1 := Lib.hid (Hbox.out.below b1)
        have G0 := Ext.cell ((b1.cell (World.block_lt_of_cell? _ _ K0.out.1)).trans K0.out.1)
        have G1 := Ext.cell ((b1.cell (World.block_lt_of_cell? _ _ K0.out.2)).trans K0.out.2)
        have G2 := Ext.cell HV1.out.c0
        have G3 := Ext.cell HV1.out.c1
        have q := eq_dot y.s y.n v.s v.n
        clear hw1 b1 HC
        cases he : decide (y.s = v.s ∧ y.n = v.n)
        · simp only [he] at q
          have HPUT := Lib.hid (show putV l v = (rows.map (·.1)).take k ++ [v] ++ (rows.map (·.1)).drop k from by rw [HMAP.out]; exact putV_new HAT.out HY.out he)
          clear he
          go_wp2_with fail
          refine wp_region_ext (by kernel_rfl) (by kernel_rfl) ?_
          repeat (go_big_quiet_step (fail))
          refine wpQuiet_nil ?_
          intro w3 hw3
          have b3 := ext_end hw3
          have HB3 := Lib.hid (HB1.out.trans (b3.mono HB1.out.size))
          have HV3 := Lib.hid (HV1.out.below b3)
          have hsz3 := HB3.out.size
          have TK := Sl.take (Sl.below HSL.out HB3.out) (k := k) (by omega)
          rw [flat_take] at TK
          have HTK := Lib.hid TK
          have TD := Sl.cut HSL.out (k := k) (cap := c) (by omega) hc
          rw [flat_drop, if_neg (by omega)] at TD
          have HTD := Lib.hid (show Sl w (some ⟨b, off + k * 5, none⟩) (n - k) 5 ((rows.drop k).flatMap vV1) from by simpa [add_plain'] using TD)
          have d1 : ¬ (c = k) := by omega
          have d2 : ¬ ((c : Int) = (k : Int)) := by omega
          clear hw3 b3 G0 G1 G2 G3 q TK TD
          go_wp2_with (first | (at_builtin; refine wpList_append_sl _ rfl (.tmp 38) (.tmp 41) 22 rfl (w.heap.size) 28 i0 (.agg #[.int .i64 0, .int .i64 0, .slice none 0 0, .bool false, .string ⟨#[]⟩]) 5 64 Try.underlying22 hi hz0 hz1 hz2 rfl (by decide) (.slice none 0 0) (0) ([]) rfl (World.ownsRow_nil _ _ _ _) (some ⟨b, off, none⟩) (k) (c) ((rows.take k).flatMap vV1) rfl (HTK.out) (flat_one _) (by unfold maxLen; omega) (by omega) (hsz3) ?_) | fail)
          intro v1 w4 own1 g1 _
          have BX4 : Below w3.heap.size w3 w4 := (Below.refl _ _).grown g1 (Nat.le_refl _) (fun q hq => by simp [Value.ownBlock] at hq)
          have B4 := Lib.hid (HB3.out.trans (BX4.mono hsz3))
          obtain ⟨A1, c1, rfl, hc1, _⟩ := own_slice own1
          have hsz4 := B4.out.size
          have r0 := (HV3.out.below BX4).c0
          have r1 := (HV3.out.below BX4).c1
          have r2 := (HV3.out.below BX4).c2
          have r3 := (HV3.out.below BX4).c3
          have r4 := (HV3.out.below BX4).c4
          have HO1 := Lib.hid (own1.alloc (.cells #[.int .i64 v.s, .int .i64 v.n, .slice Ap np cp, .bool v.gone, .string v.val] 28))
          have HLT := Lib.hid own1.lt
          have BXH := Lib.hid BX4
          clear g1 own1 BX4
          go_wp2_with (first | (at_builtin; refine wpList_append_sl _ rfl (.tmp 43) (.tmp 45) 22 rfl (w.heap.size) 28 i0 (.agg #[.int .i64 0, .int .i64 0, .slice none 0 0, .bool false, .string ⟨#[]⟩]) 5 64 Try.underlying22 hi hz0 hz1 hz2 rfl (by decide) (_) (k) ((rows.take k).flatMap vV1) rfl (HO1.out) (some ⟨w4.heap.size, 0, none⟩) (1) (1) ([.int .i64 v.s, .int .i64 v.n, .slice Ap np cp, .bool v.gone, .string v.val]) rfl (sl_ver w4 (v, Ap, np, cp) 28) (vV1_one (v, Ap, np, cp)) (by unfold maxLen; omega) (by omega) (by simp; omega) ?_) | fail)
          intro v2 w5 own2 g2 _
          have BX5 := (((Below.refl w.heap.size w4).alloc hsz4 (.cells #[.int .i64 v.s, .int .i64 v.n, .slice Ap np cp, .bool v.gone, .string v.val] 28)).grown g2 (by simp; omega) (fun q hq => (HLT.out q hq).1))
          have B5 := Lib.hid (B4.out.trans BX5)
          obtain ⟨A2, c2, rfl, hc2, _⟩ := own_slice own2
          have hsz5 := B5.out.size
          have HO2 := Lib.hid own2
          have HLT2 := Lib.hid own2.lt
          clear g2 own2 BX5 r0 r1 r2 r3 r4
          go_wp2_with (first | (at_builtin; refine wpList_append_sl _ rfl (.tmp 47) (.tmp 50) 22 rfl (w.heap.size) 28 i0 (.agg #[.int .i64 0, .int .i64 0, .slice none 0 0, .bool false, .string ⟨#[]⟩]) 5 64 Try.underlying22 hi hz0 hz1 hz2 rfl (by decide) (_) (k + 1) ((rows.take k).flatMap vV1 ++ vV1 (v, Ap, np, cp)) rfl (HO2.out) (some ⟨b, off + k * 5, none⟩) (n - k) (c - k) ((rows.drop k).flatMap vV1) rfl (Sl.below HTD.out B5.out) (flat_one _) (by unfold maxLen; omega) (by omega) (hsz5) ?_) | fail)
          intro v3 w6 own3 g3 _
          have B6 := B5.out.grown g3 hsz5 (fun q hq => (HLT2.out q hq).1)
          obtain ⟨A3, c3, rfl, hc3, _⟩ := own_slice own3
          have FIN := Lib.hid (put_rows B6 H3.out HR.out own3 (by omega))
          clear g3 own3 B6
          go_wp2
          go_ret
          rw [HPUT.out]
          exact FIN.out
        · simp only [he] at q
          have HPUT := Lib.hid (putV_hit HAT.out HY.out he)
          clear he
          go_wp2_with fail
          refine wp_region_ext (by kernel_rfl) (by kernel_rfl) ?_
          repeat (go_big_quiet_step (fail))
          refine wpQuiet_nil ?_
          intro w3 hw3
          have HB3 := Lib.hid (HB1.out.trans ((ext_end hw3).mono HB1.out.size))
          clear hw3 G0 G1 G2 G3 q
          go_wp2
          go_ret
          rw [HPUT.out]
          exact ⟨_, n, c, rfl, HL.out.below HB3.out, hc, fun h => by omega, HB3.out⟩
      · simp only [hh] at HC
        have HC := Lib.hid HC
        have HS := Lib.hid (Hok.out.step HY.out hh)
        clear hh
        go_wp2_with fail
        refine wp_region_ext (by kernel_rfl) (by kernel_rfl) ?_
        repeat (go_big_quiet_step ((go_at_call 34; exact Calls.ext_of (HC.out _))))
        refine wpQuiet_nil ?_
        intro w1 hw1
        have b1 := ext_end hw1
        have HB1 := Lib.hid (hbel.out.trans (b1.mono hsz))
        have HV1 := Lib.hid (Hbox.out.below b1)
        clear hw1 b1 G0 G1 G2 G3
        go_wp2
        go_roundw
        case rel => exact ⟨k + 1, by go_num, by omega, HS, HV1, HB1⟩
        case measure => simp [intOf]; omega
    · obtain rfl : k = n := by omega
      have HAT := Hok.out.stop (by omega) (fun x hx => by have := (List.getElem?_eq_some_iff.1 hx).1; omega)
      have HPUT := Lib.hid (show putV l v = (rows.map (·.1)).take k ++ [v] ++ (rows.map (·.1)).drop k from by rw [HMAP.out]; exact putV_end HAT (by omega))
      have G2 := Ext.cell Hbox.out.c0
      clear HAT
      go_wp2_with fail
      refine wp_region_ext (by kernel_rfl) (by kernel_rfl) ?_
      repeat (go_big_quiet_step (fail))
      refine wpQuiet_nil ?_
      intro w1 hw1
      have b1 := ext_end hw1
      have HB1 := Lib.hid (hbel.out.trans (b1.mono hsz))
      have HV1 := Lib.hid (Hbox.out.below b1)
      clear hw1 b1 G2
      go_wp2_with fail
      refine wp_region_ext (by kernel_rfl) (by kernel_rfl) ?_
      repeat (go_big_quiet_step (fail))
      refine wpQuiet_nil ?_
      intro w3 hw3
      have b3 := ext_end hw3
      have HB3 := Lib.hid (HB1.out.trans (b3.mono HB1.out.size))
      have HV3 := Lib.hid (HV1.out.below b3)
      have hsz3 := HB3.out.size
      have TK := Sl.take (Sl.below HSL.out HB3.out) (k := k) (by omega)
      rw [flat_take] at TK
      have HTK := Lib.hid TK
      have TD := Sl.cut HSL.out (k := k) (cap := c) (by omega) hc
      rw [flat_drop] at TD
      clear hw3 b3 TK
      rcases Nat.eq_zero_or_pos k with hk0 | hk0
      · obtain ⟨rfl, rfl⟩ := hA hk0
        subst hk0
        have hrows : rows = [] := List.eq_nil_of_length_eq_zero (by have := congrArg List.length HMAP.out; rw [List.length_map] at this; omega)
        subst hrows
        have r0 := HV3.out.c0
        have r1 := HV3.out.c1
        have r2 := HV3.out.c2
        have r3 := HV3.out.c3
        have r4 := HV3.out.c4
        clear TD HTK
        go_wp2_with (first | (at_builtin; refine wpList_append_sl _ rfl (.tmp 43) (.tmp 45) 22 rfl (w.heap.size) 28 i0 (.agg #[.int .i64 0, .int .i64 0, .slice none 0 0, .bool false, .string ⟨#[]⟩]) 5 64 Try.underlying22 hi hz0 hz1 hz2 rfl (by decide) (.slice none 0 0) (0) ([]) rfl (World.ownsRow_nil _ _ _ _) (some ⟨w3.heap.size, 0, none⟩) (1) (1) ([.int .i64 v.s, .int .i64 v.n, .slice Ap np cp, .bool v.gone, .string v.val]) rfl (sl_ver w3 (v, Ap, np, cp) 28) (vV1_one (v, Ap, np, cp)) (by unfold maxLen; omega) (by omega) (by simp; omega) ?_) | fail)
        intro v2 w5 own2 g2 _
        have BX5 := (((Below.refl w.heap.size w3).alloc hsz3 (.cells #[.int .i64 v.s, .int .i64 v.n, .slice Ap np cp, .bool v.gone, .string v.val] 28)).grown g2 (by simp; omega) (fun q hq => by simp [Value.ownBlock] at hq))
        have B5 := Lib.hid (HB3.out.trans BX5)
        obtain ⟨A2, c2, rfl, hc2, _⟩ := own_slice own2
        have hsz5 := B5.out.size
        have HO2 := Lib.hid own2
        have HLT2 := Lib.hid own2.lt
        clear g2 own2 BX5 r0 r1 r2 r3 r4
        go_wp2_with (first | (at_builtin; refine wpList_append_sl _ rfl (.tmp 47) (.tmp 50) 22 rfl (w.heap.size) 28 i0 (.agg #[.int .i64 0, .int .i64 0, .slice none 0 0, .bool false, .string ⟨#[]⟩]) 5 64 Try.underlying22 hi hz0 hz1 hz2 rfl (by decide) (_) (1) (vV1 (v, Ap, np, cp)) rfl (HO2.out) (none) (0) (0) ([]) rfl (Sl.nil _ _ _) (by simp) (by unfold maxLen; omega) (by omega) (hsz5) ?_) | fail)
        intro v3 w6 own3 g3 _
        have B6 := B5.out.grown g3 hsz5 (fun q hq => (HLT2.out q hq).1)
        obtain ⟨A3, c3, rfl, hc3, _⟩ := own_slice own3
        have FIN := Lib.hid (put_rows B6 H3.out HR.out (rows := []) (k := 0) (by simpa using own3) (by omega))
        clear g3 own3 B6
        go_wp2
        go_ret
        rw [HPUT.out]
        exact FIN.out
      · obtain ⟨b, off, hA', _⟩ := HSL.out.2 (by omega)
        subst hA'
        by_cases hcc : c = k
        · rw [if_pos hcc, Nat.sub_self] at TD
          have HTD := Lib.hid TD
          have d2 : ((c : Int) = (k : Int)) := by omega
          clear TD
          subst hcc
          go_wp2_with (first | (at_builtin; refine wpList_append_sl _ rfl (.tmp 38) (.tmp 41) 22 rfl (w.heap.size) 28 i0 (.agg #[.int .i64 0, .int .i64 0, .slice none 0 0, .bool false, .string ⟨#[]⟩]) 5 64 Try.underlying22 hi hz0 hz1 hz2 rfl (by decide) (.slice none 0 0) (0) ([]) rfl (World.ownsRow_nil _ _ _ _) (some ⟨b, off, none⟩) (c) (c) ((rows.take c).flatMap vV1) rfl (HTK.out) (flat_one _) (by unfold maxLen; omega) (by omega) (hsz3) ?_) | fail)
          intro v1 w4 own1 g1 _
          have BX4 : Below w3.heap.size w3 w4 := (Below.refl _ _).grown g1 (Nat.le_refl _) (fun q hq => by simp [Value.ownBlock] at hq)
          have B4 := Lib.hid (HB3.out.trans (BX4.mono hsz3))
          obtain ⟨A1, c1, rfl, hc1, _⟩ := own_slice own1
          have hsz4 := B4.out.size
          have r0 := (HV3.out.below BX4).c0
          have r1 := (HV3.out.below BX4).c1
          have r2 := (HV3.out.below BX4).c2
          have r3 := (HV3.out.below BX4).c3
          have r4 := (HV3.out.below BX4).c4
          have HO1 := Lib.hid (own1.alloc (.cells #[.int .i64 v.s, .int .i64 v.n, .slice Ap np cp, .bool v.gone, .string v.val] 28))
          have HLT := Lib.hid own1.lt
          have BXH := Lib.hid BX4
          clear g1 own1 BX4
          go_wp2_with (first | (at_builtin; refine wpList_append_sl _ rfl (.tmp 43) (.tmp 45) 22 rfl (w.heap.size) 28 i0 (.agg #[.int .i64 0, .int .i64 0, .slice none 0 0, .bool false, .string ⟨#[]⟩]) 5 64 Try.underlying22 hi hz0 hz1 hz2 rfl (by decide) (_) (c) ((rows.take c).flatMap vV1) rfl (HO1.out) (some ⟨w4.heap.size, 0, none⟩) (1) (1) ([.int .i64 v.s, .int .i64 v.n, .slice Ap np cp, .bool v.gone, .string v.val]) rfl (sl_ver w4 (v, Ap, np, cp) 28) (vV1_one (v, Ap, np, cp)) (by unfold maxLen; omega) (by omega) (by simp; omega) ?_) | fail)
          intro v2 w5 own2 g2 _
          have BX5 := (((Below.refl w.heap.size w4).alloc hsz4 (.cells #[.int .i64 v.s, .int .i64 v.n, .slice Ap np cp, .bool v.gone, .string v.val] 28)).grown g2 (by simp; omega) (fun q hq => (HLT.out q hq).1))
          have B5 := Lib.hid (B4.out.trans BX5)
          obtain ⟨A2, c2, rfl, hc2, _⟩ := own_slice own2
          have hsz5 := B5.out.size
          have HO2 := Lib.hid own2
          have HLT2 := Lib.hid own2.lt
          clear g2 own2 BX5 r0 r1 r2 r3 r4
          go_wp2_with (first | (at_builtin; refine wpList_append_sl _ rfl (.tmp 47) (.tmp 50) 22 rfl (w.heap.size) 28 i0 (.agg #[.int .i64 0, .int .i64 0, .slice none 0 0, .bool false, .string ⟨#[]⟩]) 5 64 Try.underlying22 hi hz0 hz1 hz2 rfl (by decide) (_) (c + 1) ((rows.take c).flatMap vV1 ++ vV1 (v, Ap, np, cp)) rfl (HO2.out) (some ⟨b, off, none⟩) (0) (0) ((rows.drop c).flatMap vV1) rfl (Sl.below HTD.out B5.out) (flat_one _) (by unfold maxLen; omega) (by omega) (hsz5) ?_) | fail)
          intro v3 w6 own3 g3 _
          have B6 := B5.out.grown g3 hsz5 (fun q hq => (HLT2.out q hq).1)
          obtain ⟨A3, c3, rfl, hc3, _⟩ := own_slice own3
          have FIN := Lib.hid (put_rows B6 H3.out HR.out own3 (by omega))
          clear g3 own3 B6
          go_wp2
          go_ret
          rw [HPUT.out]
          exact FIN.out
        · rw [if_neg hcc] at TD
          have HTD := Lib.hid (show Sl w (some ⟨b, off + k * 5, none⟩) 0 5 ((rows.drop k).flatMap vV1) from by simpa [add_plain'] using TD)
          have d2 : ¬ ((c : Int) = (k : Int)) := by omega
          clear TD
          go_wp2_with (first | (at_builtin; refine wpList_append_sl _ rfl (.tmp 38) (.tmp 41) 22 rfl (w.heap.size) 28 i0 (.agg #[.int .i64 0, .int .i64 0, .slice none 0 0, .bool false, .string ⟨#[]⟩]) 5 64 Try.underlying22 hi hz0 hz1 hz2 rfl (by decide) (.slice none 0 0) (0) ([]) rfl (World.ownsRow_nil _ _ _ _) (some ⟨b, off, none⟩) (k) (c) ((rows.take k).flatMap vV1) rfl (HTK.out) (flat_one _) (by unfold maxLen; omega) (by omega) (hsz3) ?_) | fail)
          intro v1 w4 own1 g1 _
          have BX4 : Below w3.heap.size w3 w4 := (Below.refl _ _).grown g1 (Nat.le_refl _) (fun q hq => by simp [Value.ownBlock] at hq)
          have B4 := Lib.hid (HB3.out.trans (BX4.mono hsz3))
          obtain ⟨A1, c1, rfl, hc1, _⟩ := own_slice own1
          have hsz4 := B4.out.size
          have r0 := (HV3.out.below BX4).c0
          have r1 := (HV3.out.below BX4).c1
          have r2 := (HV3.out.below BX4).c2
          have r3 := (HV3.out.below BX4).c3
          have r4 := (HV3.out.below BX4).c4
          have HO1 := Lib.hid (own1.alloc (.cells #[.int .i64 v.s, .int .i64 v.n, .slice Ap np cp, .bool v.gone, .string v.val] 28))
          have HLT := Lib.hid own1.lt
          have BXH := Lib.hid BX4
          clear g1 own1 BX4
          go_wp2_with (first | (at_builtin; refine wpList_append_sl _ rfl (.tmp 43) (.tmp 45) 22 rfl (w.heap.size) 28 i0 (.agg #[.int .i64 0, .int .i64 0, .slice none 0 0, .bool false, .string ⟨#[]⟩]) 5 64 Try.underlying22 hi hz0 hz1 hz2 rfl (by decide) (_) (k) ((rows.take k).flatMap vV1) rfl (HO1.out) (some ⟨w4.heap.size, 0, none⟩) (1) (1) ([.int .i64 v.s, .int .i64 v.n, .slice Ap np cp, .bool v.gone, .string v.val]) rfl (sl_ver w4 (v, Ap, np, cp) 28) (vV1_one (v, Ap, np, cp)) (by unfold maxLen; omega) (by omega) (by simp; omega) ?_) | fail)
          intro v2 w5 own2 g2 _
          have BX5 := (((Below.refl w.heap.size w4).alloc hsz4 (.cells #[.int .i64 v.s, .int .i64 v.n, .slice Ap np cp, .bool v.gone, .string v.val] 28)).grown g2 (by simp; omega) (fun q hq => (HLT.out q hq).1))
          have B5 := Lib.hid (B4.out.trans BX5)
          obtain ⟨A2, c2, rfl, hc2, _⟩ := own_slice own2
          have hsz5 := B5.out.size
          have HO2 := Lib.hid own2
          have HLT2 := Lib.hid own2.lt
          clear g2 own2 BX5 r0 r1 r2 r3 r4
          go_wp2_with (first | (at_builtin; refine wpList_append_sl _ rfl (.tmp 47) (.tmp 50) 22 rfl (w.heap.size) 28 i0 (.agg #[.int .i64 0, .int .i64 0, .slice none 0 0, .bool false, .string ⟨#[]⟩]) 5 64 Try.underlying22 hi hz0 hz1 hz2 rfl (by decide) (_) (k + 1) ((rows.take k).flatMap vV1 ++ vV1 (v, Ap, np, cp)) rfl (HO2.out) (some ⟨b, off + k * 5, none⟩) (0) (c - k) ((rows.drop k).flatMap vV1) rfl (Sl.below HTD.out B5.out) (flat_one _) (by unfold maxLen; omega) (by omega) (hsz5) ?_) | fail)
          intro v3 w6 own3 g3 _
          have B6 := B5.out.grown g3 hsz5 (fun q hq => (HLT2.out q hq).1)
          obtain ⟨A3, c3, rfl, hc3, _⟩ := own_slice own3
          have FIN := Lib.hid (put_rows B6 H3.out HR.out own3 (by omega))
          clear g3 own3 B6
          go_wp2
          go_ret
          rw [HPUT.out]
          exact FIN.out
end Go.Proofs.Ytlcfknpmnoghbaa
