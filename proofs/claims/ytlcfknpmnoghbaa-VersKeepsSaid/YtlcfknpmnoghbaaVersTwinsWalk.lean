/-
  firthlaw05.VersTwins: the walk. Two unlike versions of one dot are never joined.
-/
import Derived.Test.YtlcfknpmnoghbaaVersJoinsWalk
namespace Go.Proofs.Ytlcfknpmnoghbaa
open Go.RowKit
set_option linter.unusedVariables false

/-! ### What merging answers is right -/
theorem okV_own {v : Vr} (h : okVB v = true) : hasB v.past v.s v.n = false := by
  unfold okVB at h
  simp only [Bool.and_eq_true] at h
  obtain ⟨_, h2, h3, _⟩ := h
  have h3 := of_decide_eq_true h3
  refine hasB_false ?_
  rintro ⟨x, hx, e1, e2, e3⟩
  obtain ⟨i, hi, rfl⟩ := List.getElem_of_mem hx
  have : ∀ k, i < k → k ≤ v.past.length → (v.past[i]).2.2 ≤ topTo v.past v.s k := by
    intro k hk hkl
    induction k with
    | zero => omega
    | succ k ih =>
      have hk' : v.past[k]? = some (v.past[k]'(by omega)) := List.getElem?_eq_getElem _
      by_cases hik : i = k
      · subst hik
        by_cases hc : topTo v.past v.s i < (v.past[i]).2.2
        · rw [topTo_yes hk' e1 hc]; exact Int.le_refl _
        · rw [topTo_no hk' (fun q => hc q.2)]; omega
      · have h1 := ih (by omega) (by omega)
        by_cases hc : (v.past[k]'(by omega)).1 = v.s ∧ topTo v.past v.s k < (v.past[k]'(by omega)).2.2
        · rw [topTo_yes hk' hc.1 hc.2]; omega
        · rw [topTo_no hk' hc]; exact h1
  have h4 := this v.past.length hi (Nat.le_refl _)
  unfold topS at h3
  omega
theorem joinV_right {a b : List Vr} (ha : RightV a) (hb : RightV b) (ht : mrgT a b = false) (hl : (joinV a b).length ≤ 512) : RightV (joinV a b) := by
  have hm := mem_joinV ha hb ht
  refine ⟨⟨fun v hv => ?_, joinV_sorted ha hb⟩, hl⟩
  obtain ⟨h1, h2, h3⟩ := (hm v).1 hv
  refine ⟨?_, behB_false.2 fun u hu => ?_⟩
  · rcases h1 with h1 | h1
    · exact (ha.1.1 v h1).1
    · exact (hb.1.1 v h1).1
  · rcases ((hm u).1 hu).1 with h | h
    · exact behB_false.1 h2 u h
    · exact behB_false.1 h3 u h
/-- Is a version of that dot among these? -/
def hasD (l : List Vr) (s n : Int) : Bool := l.any fun v => decide (v.s = s ∧ v.n = n)
theorem hasD_true {l : List Vr} {s n : Int} : hasD l s n = true ↔ ∃ v ∈ l, v.s = s ∧ v.n = n := by unfold hasD; rw [List.any_eq_true]; simp
def HasTo (l : List Vr) (s n : Int) (k : Nat) : Prop := ∀ v ∈ l.take k, decide (v.s = s ∧ v.n = n) = false
theorem HasTo.start (l : List Vr) (s n : Int) : HasTo l s n 0 := by intro v hv; simp at hv
theorem HasTo.step {l : List Vr} {s n : Int} {k : Nat} {x : Vr} (h : HasTo l s n k) (hx : l[k]? = some x) (hn : decide (x.s = s ∧ x.n = n) = false) : HasTo l s n (k + 1) := by
  intro v hv
  rcases mem_take_succ hx hv with h1 | rfl
  · exact h v h1
  · exact hn
theorem HasTo.hit {l : List Vr} {s n : Int} {k : Nat} {x : Vr} (hx : l[k]? = some x) (hn : decide (x.s = s ∧ x.n = n) = true) : hasD l s n = true := hasD_true.2 ⟨x, List.mem_of_getElem? hx, of_decide_eq_true hn⟩
theorem HasTo.all {l : List Vr} {s n : Int} {k : Nat} (h : HasTo l s n k) (hk : l.length = k) : hasD l s n = false := by
  cases hc : hasD l s n
  · rfl
  · obtain ⟨v, hv, e⟩ := hasD_true.1 hc
    have := h v (by rw [List.take_of_length_le (by omega)]; exact hv)
    exact absurd e (of_decide_eq_false this)
set_option maxHeartbeats 1000000 in
set_option maxRecDepth 100000 in
theorem hasD_any (A : Option Addr) (n c : Nat) (l : List Vr) (s m : Int) (w : World) (hv : SlV w A n l) (hn : n ≤ 140737488351232) :
    Calls Try.prog 21 #[.slice A n c, .agg #[.int .i64 s, .int .i64 m]] w fun e w' => e = .returned (.bool (hasD l s m)) ∧ Below w.heap.size w w' := by
  have hll := hv.len
  have HV := Lib.hid hv
  have HB0 := Lib.hid (Box2.new w 25 s m)
  have BL0 : Below w.heap.size w (w.alloc (.cells #[.int .i64 s, .int .i64 m] 25)) := (Below.refl _ _).alloc (Nat.le_refl _) _
  have HL0 := Lib.hid BL0
  clear BL0 hv
  go_enter Try.func21, Try.ntmps21
  go_wp2
  go_loopw [5] (fun i wr => ∃ (k : Nat), i = .int .i64 (k : Int) ∧ k ≤ n ∧ Hid (HasTo l s m k) ∧ Hid (Box2 wr w.heap.size 25 s m) ∧ Hid (Below w.heap.size w wr)) (fun i _ => n - (intOf i).toNat)
  case atStart => exact ⟨0, rfl, Nat.zero_le _, HasTo.start l s m, HB0, HL0⟩
  case round =>
    obtain ⟨k, rfl, hk, Hok, Hbox, hbel⟩ := hrel
    have hsz := hbel.out.size
    by_cases hlt : k < n
    · obtain ⟨b, off, v, Ap, np, cp, e0, hx, hr, hc0, hc1, hc2, hc3, hc4⟩ := (HV.out.below hbel.out).at_ hlt
      subst e0
      have Hx := Lib.hid hx
      have G0 := Ext.cell hc0
      have G1 := Ext.cell hc1
      have G2 := Ext.cell Hbox.out.c0
      have G3 := Ext.cell Hbox.out.c1
      have q := eq_dot v.s v.n s m
      have j0 : (0 : Int) ≤ (k : Int) := by omega
      have j1 : (k : Int) < (n : Int) := by omega
      clear hx hr hc0 hc1 hc2 hc3 hc4
      cases he : decide (v.s = s ∧ v.n = m)
      · simp only [he] at q
        have HS := Lib.hid (Hok.out.step Hx.out he)
        clear he
        go_wp2_with fail
        refine wp_region_ext (by kernel_rfl) (by kernel_rfl) ?_
        repeat (go_big_quiet_step (fail))
        refine wpQuiet_nil ?_
        intro w1 hw1
        have b1 := ext_end hw1
        have HX4 := Lib.hid (Hbox.out.below b1)
        have R4 := Lib.hid (hbel.out.trans (b1.mono hsz))
        clear hw1 G0 G1 G2 G3 b1 q
        go_wp2
        go_roundw
        case rel => exact ⟨k + 1, by go_num, by omega, HS, HX4, R4⟩
        case measure => simp [intOf]; omega
      · simp only [he] at q
        have HS := Lib.hid (HasTo.hit Hx.out he)
        clear he
        go_wp2_with fail
        refine wp_region_ext (by kernel_rfl) (by kernel_rfl) ?_
        repeat (go_big_quiet_step (fail))
        refine wpQuiet_nil ?_
        intro w1 hw1
        have b1 := ext_end hw1
        have R4 := Lib.hid (hbel.out.trans (b1.mono hsz))
        clear hw1 G0 G1 G2 G3 b1 q
        go_wp2
        go_ret
        exact ⟨retb HS.out, R4.out⟩
    · obtain rfl : k = n := by omega
      have HE := Lib.hid (Hok.out.all hll)
      go_wp2
      go_ret
      exact ⟨retb HE.out, hbel.out⟩
/-- The law's own step: two merged lists that hold unlike versions of one dot. -/
theorem twins_law {a b : List Vr} {v u : Vr} (h1 : mrgE a [v] = 0) (h2 : mrgE b [u] = 0) (hs : u.s = v.s ∧ u.n = v.n) (hne : v ≠ u) (k1 : hasD (mergedL a [v]) v.s v.n = true) (k2 : hasD (mergedL b [u]) v.s v.n = true) :
    mrgE (mergedL a [v]) (mergedL b [u]) = 50 ∧ mergedL (mergedL a [v]) (mergedL b [u]) = [] := by
  rcases mrg_cases a [v] with ⟨_, e1, l1, ra, rv, t1⟩ | ⟨h, _⟩
  · rcases mrg_cases b [u] with ⟨_, e2, l2, rb, ru, t2⟩ | ⟨h, _⟩
    · rw [e1] at k1
      rw [e2] at k2
      rw [e1, e2]
      have R1 := joinV_right ra rv t1 l1
      have R2 := joinV_right rb ru t2 l2
      obtain ⟨x, hx, d1⟩ := hasD_true.1 k1
      obtain ⟨y, hy, d2⟩ := hasD_true.1 k2
      have ex : x = v := by
        rcases ((mem_joinV ra rv t1 x).1 hx).1 with h | h
        · exact noTwin ra rv t1 x h v (List.mem_singleton.2 rfl) d1
        · exact List.mem_singleton.1 h
      have ey : y = u := by
        rcases ((mem_joinV rb ru t2 y).1 hy).1 with h | h
        · exact noTwin rb ru t2 y h u (List.mem_singleton.2 rfl) ⟨by omega, by omega⟩
        · exact List.mem_singleton.1 h
      subst ex ey
      exact mrg_twin (rightV_true.2 R1) (rightV_true.2 R2) ((mrgT_iff _ _ R1.1.2 R2.1.2).2 ⟨x, hx, y, hy, ⟨by omega, by omega⟩, hne⟩)
    · exact absurd h2 h
  · exact absurd h1 h

set_option maxHeartbeats 4000000 in
set_option maxRecDepth 100000 in
theorem twins_any (a0 : Option Addr) (len0 cap0 : Nat) (la : List Vr) (a1 : Option Addr) (len1 cap1 : Nat) (lb : List Vr) (s m : Int) (past : List Sp) (gone : Bool) (val : ByteArray) (A : Option Addr) (n c : Nat) (w : World)
    (s0 : SlV w a0 len0 la) (s1 : SlV w a1 len1 lb) (n0 : len0 ≤ 140737488351232) (n1 : len1 ≤ 140737488351232) (hr : VRow w ⟨s, m, past, gone, val⟩ A n c) :
    Calls Try.prog 6 #[.slice a0 len0 cap0, .slice a1 len1 cap1, .agg #[.int .i64 s, .int .i64 m, .slice A n c, .bool gone, .string val]] w fun e w' => e = .returned (.bool true) ∧ Below w.heap.size w w' := by
  have HX0 := Lib.hid (OneC.start w ⟨s, m, past, gone, val⟩ A n c hr.sl)
  have C1 := Lib.hid (fun W : World => awakeV_any W)
  have HR := Lib.hid hr
  have S0 := Lib.hid s0
  have S1 := Lib.hid s1
  clear hr s0 s1
  go_enter Try.func6, Try.ntmps6
  go_wp2_with fail
  refine (C1.out _).mono ?_
  rintro e w1 ⟨rfl, b1⟩
  have HB1 := Lib.hid (HX0.out.2.2.trans (b1.mono HX0.out.2.2.size))
  have X1 := Lib.hid (HX0.out.1.below b1)
  have c2 := refOne_any ⟨s, m, past, gone, val⟩ A n c w1 (HR.out.below HB1.out)
  have x0 := X1.out.c0
  have x1 := X1.out.c1
  have x2 := X1.out.c2
  have x3 := X1.out.c3
  have x4 := X1.out.c4
  simp only at x0 x1 x2 x3 x4
  clear b1 HX0
  cases ho : okVB ⟨s, m, past, gone, val⟩
  · rw [ho] at c2
    have C2 := Lib.hid c2
    clear c2 ho
    go_wp2_with fail
    refine C2.out.mono ?_
    rintro e w2 ⟨rfl, b2⟩
    have HB2 := Lib.hid (HB1.out.trans (b2.mono HB1.out.size))
    clear b2 C2 x0 x1 x2 x3 x4
    go_wp2_with fail
    refine (C1.out _).mono ?_
    rintro e w3 ⟨rfl, b3⟩
    have HB3 := Lib.hid (HB2.out.trans (b3.mono HB2.out.size))
    clear b3
    go_wp2
    go_ret
    exact ⟨rfl, HB3.out⟩
  · rw [ho] at c2
    have C2 := Lib.hid c2
    clear c2 ho
    cases gone
    · go_wp2_with fail
      refine C2.out.mono ?_
      rintro e w2 ⟨rfl, b2⟩
      have HB2 := Lib.hid (HB1.out.trans (b2.mono HB1.out.size))
      have X2 := Lib.hid (X1.out.below b2)
      have lx := X2.out.lt
      have x0 := X2.out.c0
      have x1 := X2.out.c1
      have x2 := X2.out.c2
      have x3 := X2.out.c3
      have x4 := X2.out.c4
      simp only at x0 x1 x2 x3 x4
      clear b2 C2
      by_cases hval : val = ⟨#[111, 116, 104, 101, 114]⟩
      · subst hval
        go_wp2_with fail
        have bl : ∀ (u : World) (o : Obj), Below u.heap.size u (u.alloc o) := fun u o => (Below.refl _ _).alloc (Nat.le_refl _) o
        have bU := bl w2 (.cells #[.int .i64 s, .int .i64 m, .slice A n c, .bool false, .string ⟨#[97, 110, 111, 116, 104, 101, 114]⟩] 28)
        have HB3 := Lib.hid (HB2.out.trans (bU.mono HB2.out.size))
        have XU := Lib.hid (BoxV.new w2 ⟨s, m, past, false, ⟨#[97, 110, 111, 116, 104, 101, 114]⟩⟩ A n c)
        have RV3 : VRow (w2.alloc (.cells #[.int .i64 s, .int .i64 m, .slice A n c, .bool false, .string ⟨#[97, 110, 111, 116, 104, 101, 114]⟩] 28)) ⟨s, m, past, false, ⟨#[111, 116, 104, 101, 114]⟩⟩ A n c := HR.out.below HB3.out
        have L1 := slv_lit (w2.alloc (.cells #[.int .i64 s, .int .i64 m, .slice A n c, .bool false, .string ⟨#[97, 110, 111, 116, 104, 101, 114]⟩] 28)) #[.int .i64 s, .int .i64 m, .slice A n c, .bool false, .string ⟨#[111, 116, 104, 101, 114]⟩] 28 [((⟨s, m, past, false, ⟨#[111, 116, 104, 101, 114]⟩⟩ : Vr), A, n, c)] (w2.heap.size + 1) 1 (by simp) rfl rfl (fun y hy => by rw [List.mem_singleton.1 hy]; exact RV3)
        have bV := bl (w2.alloc (.cells #[.int .i64 s, .int .i64 m, .slice A n c, .bool false, .string ⟨#[97, 110, 111, 116, 104, 101, 114]⟩] 28)) (.cells #[.int .i64 s, .int .i64 m, .slice A n c, .bool false, .string ⟨#[111, 116, 104, 101, 114]⟩] 28)
        have HB4 := Lib.hid (HB3.out.trans (bV.mono HB3.out.size))
        have XU4 := Lib.hid (XU.out.below bV)
        have X4 := Lib.hid ((X2.out.below bU).below bV)
        have C3 := Lib.hid (refMerge_any a0 _ len0 1 cap0 1 la [(⟨s, m, past, false, ⟨#[111, 116, 104, 101, 114]⟩⟩ : Vr)] _ (S0.out.below HB4.out) L1 n0 (by omega))
        clear bU RV3 L1 bV x0 x1 x2 x3 x4 XU X2
        refine C3.out.mono ?_
        rintro e w3 ⟨A3, n3, c3, rfl, hs3, hnc3, b3⟩
        have HB5 := Lib.hid (HB4.out.trans (b3.mono HB4.out.size))
        have XU5 := XU4.out.below b3
        have X5 := Lib.hid (X4.out.below b3)
        have y0 := XU5.c0
        have y1 := XU5.c1
        have y2 := XU5.c2
        have y3 := XU5.c3
        have y4 := XU5.c4
        simp only at y0 y1 y2 y3 y4
        have HS3 := Lib.hid hs3
        have RV5 : VRow w3 ⟨s, m, past, false, ⟨#[97, 110, 111, 116, 104, 101, 114]⟩⟩ A n c := ⟨Sl.below HR.out.sl HB5.out, HR.out.cap, HR.out.len, HR.out.wf, HR.out.wfp, show ByteArray.size ⟨#[97, 110, 111, 116, 104, 101, 114]⟩ ≤ 140737488351232 from by decide⟩
        have L2 := slv_lit w3 #[.int .i64 s, .int .i64 m, .slice A n c, .bool false, .string ⟨#[97, 110, 111, 116, 104, 101, 114]⟩] 28 [((⟨s, m, past, false, ⟨#[97, 110, 111, 116, 104, 101, 114]⟩⟩ : Vr), A, n, c)] w3.heap.size 1 rfl rfl rfl (fun y hy => by rw [List.mem_singleton.1 hy]; exact RV5)
        have bW := bl w3 (.cells #[.int .i64 s, .int .i64 m, .slice A n c, .bool false, .string ⟨#[97, 110, 111, 116, 104, 101, 114]⟩] 28)
        have HB6 := Lib.hid (HB5.out.trans (bW.mono HB5.out.size))
        have C4 := Lib.hid (refMerge_any a1 _ len1 1 cap1 1 lb [(⟨s, m, past, false, ⟨#[97, 110, 111, 116, 104, 101, 114]⟩⟩ : Vr)] _ (S1.out.below HB6.out) L2 n1 (by omega))
        have HS6 := Lib.hid (HS3.out.below bW)
        have X6 := Lib.hid (X5.out.below bW)
        clear b3 hs3 C3 XU5 RV5 L2 bW
        go_wp2_with fail
        refine C4.out.mono ?_
        rintro e w4 ⟨A4, n4, c4, rfl, hs4, hnc4, b4⟩
        have HB := Lib.hid (HB6.out.trans (b4.mono HB6.out.size))
        have HSX := HS6.out.below b4
        have X7 := X6.out.below b4
        have z0 := X7.c0
        have z1 := X7.c1
        simp only at z0 z1
        have HT := twins_law (a := la) (b := lb) (v := ⟨s, m, past, false, ⟨#[111, 116, 104, 101, 114]⟩⟩) (u := ⟨s, m, past, false, ⟨#[97, 110, 111, 116, 104, 101, 114]⟩⟩)
        have hm3 := merged_len la [(⟨s, m, past, false, ⟨#[111, 116, 104, 101, 114]⟩⟩ : Vr)]
        have hm4 := merged_len lb [(⟨s, m, past, false, ⟨#[97, 110, 111, 116, 104, 101, 114]⟩⟩ : Vr)]
        have hn3 := HSX.len
        have hn4 := hs4.len
        obtain ⟨e1, he1⟩ : ∃ e1, mrgE la [(⟨s, m, past, false, ⟨#[111, 116, 104, 101, 114]⟩⟩ : Vr)] = e1 := ⟨_, rfl⟩
        obtain ⟨e2, he2⟩ : ∃ e2, mrgE lb [(⟨s, m, past, false, ⟨#[97, 110, 111, 116, 104, 101, 114]⟩⟩ : Vr)] = e2 := ⟨_, rfl⟩
        obtain ⟨X, hX⟩ : ∃ X, mergedL la [(⟨s, m, past, false, ⟨#[111, 116, 104, 101, 114]⟩⟩ : Vr)] = X := ⟨_, rfl⟩
        obtain ⟨Y, hY⟩ : ∃ Y, mergedL lb [(⟨s, m, past, false, ⟨#[97, 110, 111, 116, 104, 101, 114]⟩⟩ : Vr)] = Y := ⟨_, rfl⟩
        rw [he1, he2, hX, hY] at HT
        rw [hX] at HSX hm3 hn3
        rw [hY] at hs4 hm4 hn4
        have n3' : n3 ≤ 140737488351232 := by omega
        have n4' : n4 ≤ 140737488351232 := by omega
        have MX := Lib.hid HSX
        have MY := Lib.hid hs4
        have HTT := Lib.hid HT
        clear b4 hs4 C4 HSX X7 HT hm3 hm4 hn3 hn4 hX hY HS3 HS6 y0 y1 y2 y3 y4 XU4 X4 X5 X6 HB3 HB4 HB5 HB6
        rw [he1, he2]
        clear he1 he2
        by_cases h1 : e1 = 0
        · subst h1
          by_cases h2 : e2 = 0
          · subst h2
            have c5 := hasD_any A3 n3 c3 X s m w4 MX.out n3'
            cases hk1 : hasD X s m
            · rw [hk1] at c5
              have C5 := Lib.hid c5
              clear c5 hk1
              go_wp2_with fail
              refine C5.out.mono ?_
              rintro e w5 ⟨rfl, b5⟩
              have HB := Lib.hid (HB.out.trans (b5.mono HB.out.size))
              clear b5 C5 z0 z1
              go_wp2
              go_ret
              exact ⟨rfl, HB.out⟩
            · rw [hk1] at c5
              have C5 := Lib.hid c5
              have HK1 := Lib.hid hk1
              clear c5 hk1
              go_wp2_with fail
              refine C5.out.mono ?_
              rintro e w5 ⟨rfl, b5⟩
              have HB := Lib.hid (HB.out.trans (b5.mono HB.out.size))
              have MX := Lib.hid (MX.out.below b5)
              have MY := Lib.hid (MY.out.below b5)
              have z0 := (b5.cell (World.block_lt_of_cell? _ _ z0)).trans z0
              have z1 := (b5.cell (World.block_lt_of_cell? _ _ z1)).trans z1
              have c6 := hasD_any A4 n4 c4 Y s m w5 MY.out n4'
              clear b5 C5
              cases hk2 : hasD Y s m
              · rw [hk2] at c6
                have C6 := Lib.hid c6
                clear c6 hk2
                go_wp2_with fail
                refine C6.out.mono ?_
                rintro e w6 ⟨rfl, b6⟩
                have HB := Lib.hid (HB.out.trans (b6.mono HB.out.size))
                clear b6 C6 z0 z1
                go_wp2
                go_ret
                exact ⟨rfl, HB.out⟩
              · rw [hk2] at c6
                have C6 := Lib.hid c6
                have HE := Lib.hid (HTT.out (by trivial) (by trivial) (by simp) (by intro e; injection e with e1 e2 e3 e4 e5; exact absurd (congrArg (fun b : ByteArray => b.data.size) e5) (by decide)) HK1.out hk2)
                clear c6 hk2
                go_wp2_with fail
                refine C6.out.mono ?_
                rintro e w6 ⟨rfl, b6⟩
                have HB := Lib.hid (HB.out.trans (b6.mono HB.out.size))
                have MX := Lib.hid (MX.out.below b6)
                have MY := Lib.hid (MY.out.below b6)
                have c7 := merge_any A3 A4 n3 n4 c3 c4 X Y w6 MX.out MY.out n3' n4'
                rw [HE.out.1, HE.out.2] at c7
                have C7 := Lib.hid c7
                clear b6 C6 c7 z0 z1
                go_wp2_with fail
                refine C7.out.mono ?_
                rintro e w7 ⟨A7, n7, c7, rows7, rfl, own7, hrows7, -, b7⟩
                obtain rfl : n7 = 0 := by
                  have h1 := own7.len
                  have h2 := congrArg List.length hrows7
                  rw [List.length_map] at h2
                  simp only [List.length_nil] at h2
                  omega
                have HB := Lib.hid (HB.out.trans (b7.mono HB.out.size))
                have c8 := verLacks_any A3 A4 n3 n4 c3 c4 X Y w7 (MX.out.below b7) (MY.out.below b7) n3' n4'
                rw [show lacksB X Y = false from by unfold lacksB; rw [HE.out.1]; rfl] at c8
                have C8 := Lib.hid c8
                clear own7 hrows7 b7 C7 c8
                go_wp2_with fail
                refine C8.out.mono ?_
                rintro e w8 ⟨rfl, b8⟩
                have HB := Lib.hid (HB.out.trans (b8.mono HB.out.size))
                clear b8 C8
                go_wp2
                go_ret
                exact ⟨rfl, HB.out⟩
          · have h2' : (e2 == 0) = false := beq_eq_false_iff_ne.2 h2
            clear z0 z1
            go_wp2
            go_ret
            exact ⟨rfl, HB.out⟩
        · have h1' : (e1 == 0) = false := beq_eq_false_iff_ne.2 h1
          clear z0 z1
          go_wp2
          go_ret
          exact ⟨rfl, HB.out⟩
      · have hv2 : ¬ val.toList = [111, 116, 104, 101, 114] := fun h => hval (by
          rw [ByteArray.toList_eq] at h
          cases val
          congr 1
          exact Array.toList_inj.1 h)
        have hv3 : (val.toList == [111, 116, 104, 101, 114]) = false := beq_eq_false_iff_ne.2 hv2
        go_wp2_with fail
        have bl : ∀ (u : World) (o : Obj), Below u.heap.size u (u.alloc o) := fun u o => (Below.refl _ _).alloc (Nat.le_refl _) o
        have bU := bl w2 (.cells #[.int .i64 s, .int .i64 m, .slice A n c, .bool false, .string ⟨#[111, 116, 104, 101, 114]⟩] 28)
        have HB3 := Lib.hid (HB2.out.trans (bU.mono HB2.out.size))
        have XU := Lib.hid (BoxV.new w2 ⟨s, m, past, false, ⟨#[111, 116, 104, 101, 114]⟩⟩ A n c)
        have RV3 : VRow (w2.alloc (.cells #[.int .i64 s, .int .i64 m, .slice A n c, .bool false, .string ⟨#[111, 116, 104, 101, 114]⟩] 28)) ⟨s, m, past, false, val⟩ A n c := HR.out.below HB3.out
        have L1 := slv_lit (w2.alloc (.cells #[.int .i64 s, .int .i64 m, .slice A n c, .bool false, .string ⟨#[111, 116, 104, 101, 114]⟩] 28)) #[.int .i64 s, .int .i64 m, .slice A n c, .bool false, .string val] 28 [((⟨s, m, past, false, val⟩ : Vr), A, n, c)] (w2.heap.size + 1) 1 (by simp) rfl rfl (fun y hy => by rw [List.mem_singleton.1 hy]; exact RV3)
        have bV := bl (w2.alloc (.cells #[.int .i64 s, .int .i64 m, .slice A n c, .bool false, .string ⟨#[111, 116, 104, 101, 114]⟩] 28)) (.cells #[.int .i64 s, .int .i64 m, .slice A n c, .bool false, .string val] 28)
        have HB4 := Lib.hid (HB3.out.trans (bV.mono HB3.out.size))
        have XU4 := Lib.hid (XU.out.below bV)
        have X4 := Lib.hid ((X2.out.below bU).below bV)
        have C3 := Lib.hid (refMerge_any a0 _ len0 1 cap0 1 la [(⟨s, m, past, false, val⟩ : Vr)] _ (S0.out.below HB4.out) L1 n0 (by omega))
        clear bU RV3 L1 bV x0 x1 x2 x3 x4 XU X2
        refine C3.out.mono ?_
        rintro e w3 ⟨A3, n3, c3, rfl, hs3, hnc3, b3⟩
        have HB5 := Lib.hid (HB4.out.trans (b3.mono HB4.out.size))
        have XU5 := XU4.out.below b3
        have X5 := Lib.hid (X4.out.below b3)
        have y0 := XU5.c0
        have y1 := XU5.c1
        have y2 := XU5.c2
        have y3 := XU5.c3
        have y4 := XU5.c4
        simp only at y0 y1 y2 y3 y4
        have HS3 := Lib.hid hs3
        have RV5 : VRow w3 ⟨s, m, past, false, ⟨#[111, 116, 104, 101, 114]⟩⟩ A n c := ⟨Sl.below HR.out.sl HB5.out, HR.out.cap, HR.out.len, HR.out.wf, HR.out.wfp, show ByteArray.size ⟨#[111, 116, 104, 101, 114]⟩ ≤ 140737488351232 from by decide⟩
        have L2 := slv_lit w3 #[.int .i64 s, .int .i64 m, .slice A n c, .bool false, .string ⟨#[111, 116, 104, 101, 114]⟩] 28 [((⟨s, m, past, false, ⟨#[111, 116, 104, 101, 114]⟩⟩ : Vr), A, n, c)] w3.heap.size 1 rfl rfl rfl (fun y hy => by rw [List.mem_singleton.1 hy]; exact RV5)
        have bW := bl w3 (.cells #[.int .i64 s, .int .i64 m, .slice A n c, .bool false, .string ⟨#[111, 116, 104, 101, 114]⟩] 28)
        have HB6 := Lib.hid (HB5.out.trans (bW.mono HB5.out.size))
        have C4 := Lib.hid (refMerge_any a1 _ len1 1 cap1 1 lb [(⟨s, m, past, false, ⟨#[111, 116, 104, 101, 114]⟩⟩ : Vr)] _ (S1.out.below HB6.out) L2 n1 (by omega))
        have HS6 := Lib.hid (HS3.out.below bW)
        have X6 := Lib.hid (X5.out.below bW)
        clear b3 hs3 C3 XU5 RV5 L2 bW
        go_wp2_with fail
        refine C4.out.mono ?_
        rintro e w4 ⟨A4, n4, c4, rfl, hs4, hnc4, b4⟩
        have HB := Lib.hid (HB6.out.trans (b4.mono HB6.out.size))
        have HSX := HS6.out.below b4
        have X7 := X6.out.below b4
        have z0 := X7.c0
        have z1 := X7.c1
        simp only at z0 z1
        have HT := twins_law (a := la) (b := lb) (v := ⟨s, m, past, false, val⟩) (u := ⟨s, m, past, false, ⟨#[111, 116, 104, 101, 114]⟩⟩)
        have hm3 := merged_len la [(⟨s, m, past, false, val⟩ : Vr)]
        have hm4 := merged_len lb [(⟨s, m, past, false, ⟨#[111, 116, 104, 101, 114]⟩⟩ : Vr)]
        have hn3 := HSX.len
        have hn4 := hs4.len
        obtain ⟨e1, he1⟩ : ∃ e1, mrgE la [(⟨s, m, past, false, val⟩ : Vr)] = e1 := ⟨_, rfl⟩
        obtain ⟨e2, he2⟩ : ∃ e2, mrgE lb [(⟨s, m, past, false, ⟨#[111, 116, 104, 101, 114]⟩⟩ : Vr)] = e2 := ⟨_, rfl⟩
        obtain ⟨X, hX⟩ : ∃ X, mergedL la [(⟨s, m, past, false, val⟩ : Vr)] = X := ⟨_, rfl⟩
        obtain ⟨Y, hY⟩ : ∃ Y, mergedL lb [(⟨s, m, past, false, ⟨#[111, 116, 104, 101, 114]⟩⟩ : Vr)] = Y := ⟨_, rfl⟩
        rw [he1, he2, hX, hY] at HT
        rw [hX] at HSX hm3 hn3
        rw [hY] at hs4 hm4 hn4
        have n3' : n3 ≤ 140737488351232 := by omega
        have n4' : n4 ≤ 140737488351232 := by omega
        have MX := Lib.hid HSX
        have MY := Lib.hid hs4
        have HTT := Lib.hid HT
        clear b4 hs4 C4 HSX X7 HT hm3 hm4 hn3 hn4 hX hY HS3 HS6 y0 y1 y2 y3 y4 XU4 X4 X5 X6 HB3 HB4 HB5 HB6
        rw [he1, he2]
        clear he1 he2
        by_cases h1 : e1 = 0
        · subst h1
          by_cases h2 : e2 = 0
          · subst h2
            have c5 := hasD_any A3 n3 c3 X s m w4 MX.out n3'
            cases hk1 : hasD X s m
            · rw [hk1] at c5
              have C5 := Lib.hid c5
              clear c5 hk1
              go_wp2_with fail
              refine C5.out.mono ?_
              rintro e w5 ⟨rfl, b5⟩
              have HB := Lib.hid (HB.out.trans (b5.mono HB.out.size))
              clear b5 C5 z0 z1
              go_wp2
              go_ret
              exact ⟨rfl, HB.out⟩
            · rw [hk1] at c5
              have C5 := Lib.hid c5
              have HK1 := Lib.hid hk1
              clear c5 hk1
              go_wp2_with fail
              refine C5.out.mono ?_
              rintro e w5 ⟨rfl, b5⟩
              have HB := Lib.hid (HB.out.trans (b5.mono HB.out.size))
              have MX := Lib.hid (MX.out.below b5)
              have MY := Lib.hid (MY.out.below b5)
              have z0 := (b5.cell (World.block_lt_of_cell? _ _ z0)).trans z0
              have z1 := (b5.cell (World.block_lt_of_cell? _ _ z1)).trans z1
              have c6 := hasD_any A4 n4 c4 Y s m w5 MY.out n4'
              clear b5 C5
              cases hk2 : hasD Y s m
              · rw [hk2] at c6
                have C6 := Lib.hid c6
                clear c6 hk2
                go_wp2_with fail
                refine C6.out.mono ?_
                rintro e w6 ⟨rfl, b6⟩
                have HB := Lib.hid (HB.out.trans (b6.mono HB.out.size))
                clear b6 C6 z0 z1
                go_wp2
                go_ret
                exact ⟨rfl, HB.out⟩
              · rw [hk2] at c6
                have C6 := Lib.hid c6
                have HE := Lib.hid (HTT.out (by trivial) (by trivial) (by simp) (by intro e; injection e with e1 e2 e3 e4 e5; exact hval e5) HK1.out hk2)
                clear c6 hk2
                go_wp2_with fail
                refine C6.out.mono ?_
                rintro e w6 ⟨rfl, b6⟩
                have HB := Lib.hid (HB.out.trans (b6.mono HB.out.size))
                have MX := Lib.hid (MX.out.below b6)
                have MY := Lib.hid (MY.out.below b6)
                have c7 := merge_any A3 A4 n3 n4 c3 c4 X Y w6 MX.out MY.out n3' n4'
                rw [HE.out.1, HE.out.2] at c7
                have C7 := Lib.hid c7
                clear b6 C6 c7 z0 z1
                go_wp2_with fail
                refine C7.out.mono ?_
                rintro e w7 ⟨A7, n7, c7, rows7, rfl, own7, hrows7, -, b7⟩
                obtain rfl : n7 = 0 := by
                  have h1 := own7.len
                  have h2 := congrArg List.length hrows7
                  rw [List.length_map] at h2
                  simp only [List.length_nil] at h2
                  omega
                have HB := Lib.hid (HB.out.trans (b7.mono HB.out.size))
                have c8 := verLacks_any A3 A4 n3 n4 c3 c4 X Y w7 (MX.out.below b7) (MY.out.below b7) n3' n4'
                rw [show lacksB X Y = false from by unfold lacksB; rw [HE.out.1]; rfl] at c8
                have C8 := Lib.hid c8
                clear own7 hrows7 b7 C7 c8
                go_wp2_with fail
                refine C8.out.mono ?_
                rintro e w8 ⟨rfl, b8⟩
                have HB := Lib.hid (HB.out.trans (b8.mono HB.out.size))
                clear b8 C8
                go_wp2
                go_ret
                exact ⟨rfl, HB.out⟩
          · have h2' : (e2 == 0) = false := beq_eq_false_iff_ne.2 h2
            clear z0 z1
            go_wp2
            go_ret
            exact ⟨rfl, HB.out⟩
        · have h1' : (e1 == 0) = false := beq_eq_false_iff_ne.2 h1
          clear z0 z1
          go_wp2
          go_ret
          exact ⟨rfl, HB.out⟩
    · go_wp2_with fail
      refine C2.out.mono ?_
      rintro e w2 ⟨rfl, b2⟩
      have HB2 := Lib.hid (HB1.out.trans (b2.mono HB1.out.size))
      have X2 := Lib.hid (X1.out.below b2)
      have x3 := X2.out.c3
      simp only at x3
      clear b2 C2
      go_wp2_with fail
      refine (C1.out _).mono ?_
      rintro e w3 ⟨rfl, b3⟩
      have HB3 := Lib.hid (HB2.out.trans (b3.mono HB2.out.size))
      clear b3
      go_wp2
      go_ret
      exact ⟨rfl, HB3.out⟩

set_option maxRecDepth 100000 in
theorem versTwins_walk (a0 : Option Addr) (len0 cap0 : Nat) (x0 : List vrSh.T) (a1 : Option Addr) (len1 cap1 : Nat) (x1 : List vrSh.T) (a2 : List Value) (x2 : vrSh.T) (w : World)
    (t0 : Rd w (.sl 64 vrSh) [.slice a0 len0 cap0] x0) (t1 : Rd w (.sl 64 vrSh) [.slice a1 len1 cap1] x1) (t2 : Rd w vrSh a2 x2) :
    Calls Try.prog 6 #[.slice a0 len0 cap0, .slice a1 len1 cap1, .agg a2.toArray] w fun e w' => e = .returned (.bool true) ∧ Below w.heap.size w w' := by
  obtain ⟨s0, b0, z0⟩ := Rd.vers t0
  obtain ⟨s1, b1, z1⟩ := Rd.vers t1
  obtain ⟨A, n, c, rfl, hr⟩ := vr_open t2
  exact twins_any a0 len0 cap0 _ a1 len1 cap1 _ _ _ _ _ _ A n c w s0 s1 (by omega) (by omega) hr
end Go.Proofs.Ytlcfknpmnoghbaa
