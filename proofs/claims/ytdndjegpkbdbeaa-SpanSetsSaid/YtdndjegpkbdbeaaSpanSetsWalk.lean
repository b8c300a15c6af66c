/-
  The walk of firthlaw03.SpanSets.
-/
import Derived.Test.YtdndjegpkbdbeaaSpanGrowsPlain
import Derived.Test.YtdndjegpkbdbeaaSpanManyWalk
import Derived.Test.YtdndjegpkbdbeaaDotMem
import Derived.Laws.StructEq
namespace Go.Proofs.Ytdndjegpkbdbeaa
open Go.RowKit
set_option linter.unusedVariables false

/-- Where the adding of dots stands: lx is the set, in whether d is in it or was in it before. -/
def SetAt (was : Prop) (d1 d2 : Int) (k : Nat) (lx : List Sp) (inb : Bool) : Prop := rightS lx = true ∧ lx.length ≤ k ∧ (inb = true ↔ was ∨ has lx d1 d2)
theorem SetAt.start {was : Prop} {d1 d2 : Int} {inb : Bool} (h : inb = true ↔ was) : SetAt was d1 d2 0 [] inb :=
  ⟨rightS_true.2 ⟨Norm.nil, by simp⟩, by simp, by rw [h]; exact ⟨.inl, fun h' => h'.elim id (fun h' => (has_nil _ _ h').elim)⟩⟩
theorem SetAt.skip {was : Prop} {d1 d2 : Int} {k : Nat} {lx : List Sp} {inb : Bool} (h : SetAt was d1 d2 k lx inb) : SetAt was d1 d2 (k + 1) lx inb := ⟨h.1, by have := h.2.1; omega, h.2.2⟩
theorem has_one (s n x y : Int) : has [(s, n, n)] x y ↔ s = x ∧ n = y := by
  constructor
  · rintro ⟨z, hz, hi⟩
    rw [List.mem_singleton] at hz
    subst hz
    unfold inSp at hi
    simp only at hi
    omega
  · rintro ⟨rfl, rfl⟩
    exact ⟨_, List.mem_singleton.2 rfl, rfl, by simp, by simp⟩
theorem SetAt.add {was : Prop} {d1 d2 : Int} {k : Nat} {lx : List Sp} {inb inb' : Bool} {s n : Int} (h : SetAt was d1 d2 k lx inb) (hd : dotB s n = true) (hk : k < 500) (hb : inb' = true ↔ inb = true ∨ (s = d1 ∧ n = d2)) :
    addSE lx s n = 0 ∧ SetAt was d1 d2 (k + 1) (addSL lx s n) inb' := by
  obtain ⟨h1, h2, h3⟩ := h
  obtain ⟨e1, e2⟩ := addS_yes (l := lx) hd
  have hr := rightS_one s n hd
  have hl := mergeL_len (lx.length + [(s, n, n)].length) lx [(s, n, n)] []
  have hl2 : (mergeL lx [(s, n, n)]).length ≤ lx.length + 1 := by simpa [mergeL] using hl
  obtain ⟨e3, e4⟩ := joinS_yes h1 hr (by omega)
  obtain ⟨r1, r2⟩ := joinS_right (a := lx) (b := [(s, n, n)]) e4
  rw [e1, e2]
  refine ⟨e4, r1, by rw [e3]; omega, ?_⟩
  rw [hb, h3, r2, has_one, or_assoc]
theorem sets_all {lx ly : List Sp} {d1 d2 : Int} {k1 k2 : Nat} {in1 in2 : Bool} (h1 : SetAt False d1 d2 k1 lx in1) (h2 : SetAt (has lx d1 d2) d1 d2 k2 ly in2) (hk1 : k1 ≤ 500) (hk2 : k2 ≤ 500) :
    joinSE lx ly = 0 ∧ joinSE ly lx = 0 ∧ joinSL lx ly = joinSL ly lx ∧ rightS (joinSL lx ly) = true ∧ hasB (joinSL lx ly) d1 d2 = in2 ∧ withinS lx (joinSL lx ly) = true ∧ withinS ly (joinSL lx ly) = true ∧ withinS (joinSL lx ly) lx = withinS ly lx := by
  obtain ⟨r1, l1, _⟩ := h1
  obtain ⟨r2, l2, i2⟩ := h2
  have hl := mergeL_len (lx.length + ly.length) lx ly []
  have hl' := mergeL_len (ly.length + lx.length) ly lx []
  have hm : (mergeL lx ly).length ≤ 1024 := by have : (mergeL lx ly).length ≤ lx.length + ly.length := by simpa [mergeL] using hl
                                               omega
  obtain ⟨e1, e2⟩ := joinS_yes r1 r2 hm
  obtain ⟨x1, x2⟩ := joinS_ext r1 r2 r2 r1 (fun s n => Or.comm)
  obtain ⟨u1, u2⟩ := joinS_right (a := lx) (b := ly) e2
  have w1 : withinS lx (joinSL lx ly) = true := withinS_true.2 ⟨r1, u1, fun s n h => (u2 s n).2 (.inl h)⟩
  have w2 : withinS ly (joinSL lx ly) = true := withinS_true.2 ⟨r2, u1, fun s n h => (u2 s n).2 (.inr h)⟩
  refine ⟨e2, by rw [← x2]; exact e2, x1, u1, ?_, w1, w2, ?_⟩
  · rw [Bool.eq_iff_iff, hasB_true, u2, i2]
  · rw [Bool.eq_iff_iff, withinS_true, withinS_true]
    constructor
    · rintro ⟨_, _, h⟩
      exact ⟨r2, r1, fun s n hh => h s n ((u2 s n).2 (.inr hh))⟩
    · rintro ⟨_, _, h⟩
      exact ⟨u1, r1, fun s n hh => ((u2 s n).1 hh).elim id (h s n)⟩









set_option maxHeartbeats 4000000 in
set_option maxRecDepth 100000 in
theorem spanSets_walk (a0 : Option Addr) (len0 cap0 : Nat) (l0 : List (Int × Int)) (a1 : Option Addr) (len1 cap1 : Nat) (l1 : List (Int × Int)) (d1 d2 : Int) (w : World)
    (s0 : SlD w a0 len0 l0) (f0 : ∀ x ∈ l0, wfD x) (b0 : len0 ≤ cap0) (z0 : cap0 * 16 ≤ 140737488351232) (s1 : SlD w a1 len1 l1) (f1 : ∀ x ∈ l1, wfD x) (b1 : len1 ≤ cap1) (z1 : cap1 * 16 ≤ 140737488351232)
    (wx : (Lit.int .i64 d1).wf = true) (wy : (Lit.int .i64 d2).wf = true) :
    Calls Try.prog 9 #[.slice a0 len0 cap0, .slice a1 len1 cap1, .agg #[.int .i64 d1, .int .i64 d2]] w fun e w' => e = .returned (.bool true) ∧ Below w.heap.size w w' := by
  have hn0 : len0 ≤ 140737488351232 := by omega
  have hn1 : len1 ≤ 140737488351232 := by omega
  have D0 := Lib.hid (Box2.new w 24 d1 d2)
  have B0 : Below w.heap.size w (w.alloc (.cells #[.int .i64 d1, .int .i64 d2] 24)) := (Below.refl _ _).alloc (Nat.le_refl _) _
  have HB0 := Lib.hid B0
  clear f0 f1 wx wy B0
  go_enter Try.func9, Try.ntmps9
  go_wp2_with fail
  refine (awakeS_any _).mono ?_
  rintro e w1 ⟨rfl, b1'⟩
  have B1 := HB0.out.trans (b1'.mono HB0.out.size)
  have zz1 := B1.size
  have D1 := Lib.hid (D0.out.below b1')
  have S0 := Sl.below s0 B1
  have S1 := Sl.below s1 B1
  clear b1' s0 s1
  go_wp2
  go_loopw [7, 9, 10, 11] (fun v e b i wr => ∃ (k : Nat) (inb : Bool) (A : Option Addr) (nx cx : Nat) (lx : List Sp), i = .int .i64 (k : Int) ∧ e = .int .i64 0 ∧ b = .bool inb ∧ v = .slice A nx cx ∧ k ≤ len0 ∧ k ≤ 500 ∧ nx ≤ cx ∧ SlS wr A nx lx ∧ Hid (SetAt (False) d1 d2 k lx inb) ∧ Below w1.heap.size w1 wr) (fun _ _ _ i _ => len0 - (intOf i).toNat)
  case atStart => exact ⟨0, false, none, 0, 0, [], rfl, rfl, rfl, rfl, Nat.zero_le _, by omega, Nat.le_refl _, Sl.nil _ _ _, SetAt.start (by simp), Below.refl _ _⟩
  case round =>
    obtain ⟨k, inb, A, nx, cx, lx, rfl, rfl, rfl, rfl, hk, hk5, hcx, sx, HS, hbel⟩ := hrel
    have hsz := hbel.size
    have hnx : nx ≤ 500 := by have := SlS.len sx; have := HS.out.2.1; omega
    have j0 : (0 : Int) ≤ (k : Int) := by omega
    by_cases hlt : k < len0 ∧ k < 500
    · obtain ⟨hlt, h5⟩ := hlt
      obtain ⟨b, off, s, m, rfl, hx, hc0, hc1⟩ := SlD.at_ (Sl.below S0 hbel) hlt
      have j1 : (k : Int) < (len0 : Int) := by omega
      clear hx
      cases hd : dotB s m
      · have C0 := fun W => refDot_any s m W
        simp only [hd] at C0
        have C := Lib.hid C0
        have HN := Lib.hid HS.out.skip
        clear C0 hd
        go_wp2_with fail
        refine (C.out wr).mono ?_
        rintro e w2 ⟨rfl, b2⟩
        have R2 := Lib.hid (hbel.trans (b2.mono hsz))
        have sx := Sl.below sx b2
        clear b2 hbel
        go_wp2
        go_roundw
        case rel => exact ⟨k + 1, inb, A, nx, cx, lx, by go_num, rfl, rfl, rfl, by omega, by omega, hcx, sx, HN, R2.out⟩
        case measure => simp [intOf]; omega
      · have C0 := fun W => refDot_any s m W
        simp only [hd] at C0
        have C := Lib.hid C0
        have HD := Lib.hid hd
        clear C0 hd
        go_wp2_with fail
        refine (C.out wr).mono ?_
        rintro e w2 ⟨rfl, b2⟩
        have hbel := hbel.trans (b2.mono hsz)
        have hsz := hbel.size
        have sx := Sl.below sx b2
        have hc0 := (b2.cell (World.block_lt_of_cell? _ _ hc0)).trans hc0
        have hc1 := (b2.cell (World.block_lt_of_cell? _ _ hc1)).trans hc1
        have B2 := D1.out.below hbel
        have g0 := B2.c0
        have g1 := B2.c1
        clear b2 B2 C
        cases inb
        · by_cases q1 : s = d1
          · by_cases q2 : m = d2
            · subst q1 q2
              have v1 : (s == s) = true := beq_self_eq_true _
              have v2 : (m == m) = true := beq_self_eq_true _
              have HA := Lib.hid (HS.out.add HD.out h5 (inb' := true) (by simp))
              go_wp2_with fail
              go_quiet (fail)
              have C1 := spanAdd_any A nx cx lx s m (w2.drewN nq) (Sl.drewN sx nq) (by omega) hcx
              rw [HA.out.1] at C1
              have C1 := Lib.hid C1
              go_wp2_with fail
              refine C1.out.mono ?_
              rintro e w3 ⟨A3, n3, c3, rfl, s3, hc3, -, b3⟩
              have R3 := Lib.hid ((below_drewN hbel nq).trans (b3.mono hsz))
              clear b3 hbel hc0 hc1 g0 g1 C1
              go_wp2
              go_roundw
              case rel => exact ⟨k + 1, true, A3, n3, c3, _, by go_num, rfl, rfl, rfl, by omega, by omega, hc3, s3, HA.out.2, R3.out⟩
              case measure => simp [intOf]; omega
            · subst q1
              have v1 : (s == s) = true := beq_self_eq_true _
              have v2 : (m == d2) = false := beq_eq_false_iff_ne.2 q2
              have HA := Lib.hid (HS.out.add HD.out h5 (inb' := false) (by simp [q2]))
              clear q2
              go_wp2_with fail
              go_quiet (fail)
              have C1 := spanAdd_any A nx cx lx s m (w2.drewN nq) (Sl.drewN sx nq) (by omega) hcx
              rw [HA.out.1] at C1
              have C1 := Lib.hid C1
              go_wp2_with fail
              refine C1.out.mono ?_
              rintro e w3 ⟨A3, n3, c3, rfl, s3, hc3, -, b3⟩
              have R3 := Lib.hid ((below_drewN hbel nq).trans (b3.mono hsz))
              clear b3 hbel hc0 hc1 g0 g1 C1
              go_wp2
              go_roundw
              case rel => exact ⟨k + 1, false, A3, n3, c3, _, by go_num, rfl, rfl, rfl, by omega, by omega, hc3, s3, HA.out.2, R3.out⟩
              case measure => simp [intOf]; omega
          · have v1 : (s == d1) = false := beq_eq_false_iff_ne.2 q1
            have HA := Lib.hid (HS.out.add HD.out h5 (inb' := false) (by simp [q1]))
            clear q1
            go_wp2_with fail
            go_quiet (fail)
            have C1 := spanAdd_any A nx cx lx s m (w2.drewN nq) (Sl.drewN sx nq) (by omega) hcx
            rw [HA.out.1] at C1
            have C1 := Lib.hid C1
            go_wp2_with fail
            refine C1.out.mono ?_
            rintro e w3 ⟨A3, n3, c3, rfl, s3, hc3, -, b3⟩
            have R3 := Lib.hid ((below_drewN hbel nq).trans (b3.mono hsz))
            clear b3 hbel hc0 hc1 g0 g1 C1
            go_wp2
            go_roundw
            case rel => exact ⟨k + 1, false, A3, n3, c3, _, by go_num, rfl, rfl, rfl, by omega, by omega, hc3, s3, HA.out.2, R3.out⟩
            case measure => simp [intOf]; omega
        · have HA := Lib.hid (HS.out.add HD.out h5 (inb' := true) (by simp))
          go_wp2_with fail
          go_quiet (fail)
          have C1 := spanAdd_any A nx cx lx s m (w2.drewN nq) (Sl.drewN sx nq) (by omega) hcx
          rw [HA.out.1] at C1
          have C1 := Lib.hid C1
          go_wp2_with fail
          refine C1.out.mono ?_
          rintro e w3 ⟨A3, n3, c3, rfl, s3, hc3, -, b3⟩
          have R3 := Lib.hid ((below_drewN hbel nq).trans (b3.mono hsz))
          clear b3 hbel hc0 hc1 g0 g1 C1
          go_wp2
          go_roundw
          case rel => exact ⟨k + 1, true, A3, n3, c3, _, by go_num, rfl, rfl, rfl, by omega, by omega, hc3, s3, HA.out.2, R3.out⟩
          case measure => simp [intOf]; omega
    · skip
      obtain ⟨in1, hin1⟩ : ∃ in1, in1 = inb := ⟨_, rfl⟩
      have HX : Hid (SetAt False d1 d2 k lx in1) := by rw [hin1]; exact HS
      have HI : Hid (inb = true ↔ has lx d1 d2) := by
        show _ ↔ _
        rw [HS.out.2.2]
        exact ⟨fun h => h.elim False.elim id, .inr⟩
      obtain ⟨kx, hkx⟩ : ∃ kx, kx = k := ⟨_, rfl⟩
      have hkx5 : kx ≤ 500 := by omega
      rw [← hkx] at HX
      have bx := hbel
      have B1' := B1.trans (hbel.mono zz1)
      have D2 := Lib.hid (D1.out.below hbel)
      have S1' := Sl.below S1 hbel
      have zz2 := B1'.size
      obtain ⟨wx', hwx⟩ : ∃ W : World, W = wr := ⟨_, rfl⟩
      subst hwx
      obtain ⟨Ax, hAx⟩ : ∃ Ax, Ax = A := ⟨_, rfl⟩
      subst hAx
      clear hin1 hkx hbel bx B1 D1 S1 S0 HS hsz
      by_cases hA : k < len0
      · have h5 : ¬ k < 500 := fun h => hlt ⟨hA, h⟩
        clear hlt
        go_wp2
        go_loopw [8, 9, 10, 12] (fun v e b i wr => ∃ (k : Nat) (inb : Bool) (A : Option Addr) (ny cy : Nat) (ly : List Sp), i = .int .i64 (k : Int) ∧ e = .int .i64 0 ∧ b = .bool inb ∧ v = .slice A ny cy ∧ k ≤ len1 ∧ k ≤ 500 ∧ ny ≤ cy ∧ SlS wr A ny ly ∧ Hid (SetAt (has lx d1 d2) d1 d2 k ly inb) ∧ Below wx'.heap.size wx' wr) (fun _ _ _ i _ => len1 - (intOf i).toNat)
        case atStart => exact ⟨0, inb, none, 0, 0, [], rfl, rfl, rfl, rfl, Nat.zero_le _, by omega, Nat.le_refl _, Sl.nil _ _ _, SetAt.start HI.out, Below.refl _ _⟩
        case round =>
          obtain ⟨k, inb, A, ny, cy, ly, rfl, rfl, rfl, rfl, hk, hk5, hcy, sy, HS, hbel⟩ := hrel
          have hsz := hbel.size
          have hny : ny ≤ 500 := by have := SlS.len sy; have := HS.out.2.1; omega
          have j0 : (0 : Int) ≤ (k : Int) := by omega
          by_cases hlt : k < len1 ∧ k < 500
          · obtain ⟨hlt, h5⟩ := hlt
            obtain ⟨b, off, s, m, rfl, hx, hc0, hc1⟩ := SlD.at_ (Sl.below S1' hbel) hlt
            have j1 : (k : Int) < (len1 : Int) := by omega
            clear hx
            cases hd : dotB s m
            · have C0 := fun W => refDot_any s m W
              simp only [hd] at C0
              have C := Lib.hid C0
              have HN := Lib.hid HS.out.skip
              clear C0 hd
              go_wp2_with fail
              refine (C.out wr).mono ?_
              rintro e w2 ⟨rfl, b2⟩
              have R2 := Lib.hid (hbel.trans (b2.mono hsz))
              have sy := Sl.below sy b2
              clear b2 hbel
              go_wp2
              go_roundw
              case rel => exact ⟨k + 1, inb, A, ny, cy, ly, by go_num, rfl, rfl, rfl, by omega, by omega, hcy, sy, HN, R2.out⟩
              case measure => simp [intOf]; omega
            · have C0 := fun W => refDot_any s m W
              simp only [hd] at C0
              have C := Lib.hid C0
              have HD := Lib.hid hd
              clear C0 hd
              go_wp2_with fail
              refine (C.out wr).mono ?_
              rintro e w2 ⟨rfl, b2⟩
              have hbel := hbel.trans (b2.mono hsz)
              have hsz := hbel.size
              have sy := Sl.below sy b2
              have hc0 := (b2.cell (World.block_lt_of_cell? _ _ hc0)).trans hc0
              have hc1 := (b2.cell (World.block_lt_of_cell? _ _ hc1)).trans hc1
              have B2 := D2.out.below hbel
              have g0 := B2.c0
              have g1 := B2.c1
              clear b2 B2 C
              cases inb
              · by_cases q1 : s = d1
                · by_cases q2 : m = d2
                  · subst q1 q2
                    have v1 : (s == s) = true := beq_self_eq_true _
                    have v2 : (m == m) = true := beq_self_eq_true _
                    have HA := Lib.hid (HS.out.add HD.out h5 (inb' := true) (by simp))
                    go_wp2_with fail
                    go_quiet (fail)
                    have C1 := spanAdd_any A ny cy ly s m (w2.drewN nq) (Sl.drewN sy nq) (by omega) hcy
                    rw [HA.out.1] at C1
                    have C1 := Lib.hid C1
                    go_wp2_with fail
                    refine C1.out.mono ?_
                    rintro e w3 ⟨A3, n3, c3, rfl, s3, hc3, -, b3⟩
                    have R3 := Lib.hid ((below_drewN hbel nq).trans (b3.mono hsz))
                    clear b3 hbel hc0 hc1 g0 g1 C1
                    go_wp2
                    go_roundw
                    case rel => exact ⟨k + 1, true, A3, n3, c3, _, by go_num, rfl, rfl, rfl, by omega, by omega, hc3, s3, HA.out.2, R3.out⟩
                    case measure => simp [intOf]; omega
                  · subst q1
                    have v1 : (s == s) = true := beq_self_eq_true _
                    have v2 : (m == d2) = false := beq_eq_false_iff_ne.2 q2
                    have HA := Lib.hid (HS.out.add HD.out h5 (inb' := false) (by simp [q2]))
                    clear q2
                    go_wp2_with fail
                    go_quiet (fail)
                    have C1 := spanAdd_any A ny cy ly s m (w2.drewN nq) (Sl.drewN sy nq) (by omega) hcy
                    rw [HA.out.1] at C1
                    have C1 := Lib.hid C1
                    go_wp2_with fail
                    refine C1.out.mono ?_
                    rintro e w3 ⟨A3, n3, c3, rfl, s3, hc3, -, b3⟩
                    have R3 := Lib.hid ((below_drewN hbel nq).trans (b3.mono hsz))
                    clear b3 hbel hc0 hc1 g0 g1 C1
                    go_wp2
                    go_roundw
                    case rel => exact ⟨k + 1, false, A3, n3, c3, _, by go_num, rfl, rfl, rfl, by omega, by omega, hc3, s3, HA.out.2, R3.out⟩
                    case measure => simp [intOf]; omega
                · have v1 : (s == d1) = false := beq_eq_false_iff_ne.2 q1
                  have HA := Lib.hid (HS.out.add HD.out h5 (inb' := false) (by simp [q1]))
                  clear q1
                  go_wp2_with fail
                  go_quiet (fail)
                  have C1 := spanAdd_any A ny cy ly s m (w2.drewN nq) (Sl.drewN sy nq) (by omega) hcy
                  rw [HA.out.1] at C1
                  have C1 := Lib.hid C1
                  go_wp2_with fail
                  refine C1.out.mono ?_
                  rintro e w3 ⟨A3, n3, c3, rfl, s3, hc3, -, b3⟩
                  have R3 := Lib.hid ((below_drewN hbel nq).trans (b3.mono hsz))
                  clear b3 hbel hc0 hc1 g0 g1 C1
                  go_wp2
                  go_roundw
                  case rel => exact ⟨k + 1, false, A3, n3, c3, _, by go_num, rfl, rfl, rfl, by omega, by omega, hc3, s3, HA.out.2, R3.out⟩
                  case measure => simp [intOf]; omega
              · have HA := Lib.hid (HS.out.add HD.out h5 (inb' := true) (by simp))
                go_wp2_with fail
                go_quiet (fail)
                have C1 := spanAdd_any A ny cy ly s m (w2.drewN nq) (Sl.drewN sy nq) (by omega) hcy
                rw [HA.out.1] at C1
                have C1 := Lib.hid C1
                go_wp2_with fail
                refine C1.out.mono ?_
                rintro e w3 ⟨A3, n3, c3, rfl, s3, hc3, -, b3⟩
                have R3 := Lib.hid ((below_drewN hbel nq).trans (b3.mono hsz))
                clear b3 hbel hc0 hc1 g0 g1 C1
                go_wp2
                go_roundw
                case rel => exact ⟨k + 1, true, A3, n3, c3, _, by go_num, rfl, rfl, rfl, by omega, by omega, hc3, s3, HA.out.2, R3.out⟩
                case measure => simp [intOf]; omega
          · have HU := Lib.hid (sets_all HX.out HS.out hkx5 hk5)
            have BF := B1'.trans (hbel.mono zz2)
            have sx := Sl.below sx hbel
            have D3 := Lib.hid (D2.out.below hbel)
            have zz3 := BF.size
            clear hbel B1' D2 S1' hsz HI
            by_cases hB : k < len1
            · have h5 : ¬ k < 500 := fun h => hlt ⟨hB, h⟩
              clear hlt
              go_wp2_with fail
              have F1 := spanJoin_any Ax A nx ny cx cy lx ly wr sx sy (by omega) (by omega) hcx hcy
              rw [HU.out.1] at F1
              have F1 := Lib.hid F1
              refine F1.out.mono ?_
              rintro e w2 ⟨Au, nu, cu, rfl, su, hcu, -, b2⟩
              have sx2 := Sl.below sx b2
              have sy2 := Sl.below sy b2
              have BF := BF.trans (b2.mono zz3)
              have zz3 := BF.size
              have D3 := Lib.hid (D3.out.below b2)
              clear b2 F1
              have F2 := spanJoin_any A Ax ny nx cy cx ly lx w2 sy2 sx2 (by omega) (by omega) hcy hcx
              rw [HU.out.2.1] at F2
              have F2 := Lib.hid F2
              go_wp2_with fail
              refine F2.out.mono ?_
              rintro e w3 ⟨Av, nv, cv, rfl, sv, hcv, -, b3⟩
              have su := Sl.below su b3
              have sx2 := Sl.below sx2 b3
              have sy2 := Sl.below sy2 b3
              have BF := BF.trans (b3.mono zz3)
              have zz3 := BF.size
              have D3 := Lib.hid (D3.out.below b3)
              have hnu : nu ≤ 140737488351232 := by have := SlS.len su; have := joinSL_len lx ly; omega
              clear b3 F2
              have F3 := sameS_any Au Av nu nv cu cv _ _ w3 su sv hnu
              rw [HU.out.2.2.1, beq_self_eq_true] at F3
              have F3 := Lib.hid F3
              go_wp2_with fail
              refine F3.out.mono ?_
              rintro e w4 ⟨rfl, dd, rfl⟩
              have su := Sl.drewN su dd
              have sx2 := Sl.drewN sx2 dd
              have sy2 := Sl.drewN sy2 dd
              have BF := below_drewN BF dd
              have zz3 := BF.size
              have D3 : Hid (Box2 (w3.drewN dd) w.heap.size 24 d1 d2) := D3
              have F4 := spanRight_any Au nu cu _ _ su hnu
              rw [HU.out.2.2.2.1] at F4
              have F4 := Lib.hid F4
              clear F3 sv
              go_wp2_with fail
              refine F4.out.mono ?_
              rintro e w5 ⟨rfl, b5⟩
              have su := Sl.below su b5
              have sx2 := Sl.below sx2 b5
              have sy2 := Sl.below sy2 b5
              have BF := BF.trans (b5.mono zz3)
              have zz3 := BF.size
              have D3 := D3.out.below b5
              have g0 := D3.c0
              have g1 := D3.c1
              have F5 := spanHas_any Au nu cu _ d1 d2 _ su hnu
              rw [HU.out.2.2.2.2.1] at F5
              have F5 := Lib.hid F5
              clear b5 F4 D3
              go_wp2_with fail
              refine F5.out.mono ?_
              rintro e w6 ⟨rfl, b6⟩
              have su := Sl.below su b6
              have sx2 := Sl.below sx2 b6
              have sy2 := Sl.below sy2 b6
              have BF := BF.trans (b6.mono zz3)
              have zz3 := BF.size
              have F6 := spanWithin_any Ax Au nx nu cx cu _ _ w6 sx2 su (by omega) hnu
              rw [HU.out.2.2.2.2.2.1] at F6
              have F6 := Lib.hid F6
              clear b6 F5 g0 g1
              go_wp2_with fail
              refine F6.out.mono ?_
              rintro e w7 ⟨rfl, b7⟩
              have su := Sl.below su b7
              have sx2 := Sl.below sx2 b7
              have sy2 := Sl.below sy2 b7
              have BF := BF.trans (b7.mono zz3)
              have zz3 := BF.size
              have F7 := spanWithin_any A Au ny nu cy cu _ _ w7 sy2 su (by omega) hnu
              rw [HU.out.2.2.2.2.2.2.1] at F7
              have F7 := Lib.hid F7
              clear b7 F6
              go_wp2_with fail
              refine F7.out.mono ?_
              rintro e w8 ⟨rfl, b8⟩
              have su := Sl.below su b8
              have sx2 := Sl.below sx2 b8
              have sy2 := Sl.below sy2 b8
              have BF := BF.trans (b8.mono zz3)
              have zz3 := BF.size
              have F8 := spanWithin_any Au Ax nu nx cu cx _ _ w8 su sx2 hnu (by omega)
              rw [HU.out.2.2.2.2.2.2.2] at F8
              have F8 := Lib.hid F8
              clear b8 F7
              go_wp2_with fail
              refine F8.out.mono ?_
              rintro e w9 ⟨rfl, b9⟩
              have sx2 := Sl.below sx2 b9
              have sy2 := Sl.below sy2 b9
              have BF := BF.trans (b9.mono zz3)
              have zz3 := BF.size
              have F9 := Lib.hid (spanWithin_any A Ax ny nx cy cx _ _ w9 sy2 sx2 (by omega) (by omega))
              clear b9 F8
              go_wp2_with fail
              refine F9.out.mono ?_
              rintro e w10 ⟨rfl, b10⟩
              go_wp2
              go_ret
              exact ⟨by simp, BF.trans (b10.mono zz3)⟩
            · clear hlt
              go_wp2_with fail
              have F1 := spanJoin_any Ax A nx ny cx cy lx ly wr sx sy (by omega) (by omega) hcx hcy
              rw [HU.out.1] at F1
              have F1 := Lib.hid F1
              refine F1.out.mono ?_
              rintro e w2 ⟨Au, nu, cu, rfl, su, hcu, -, b2⟩
              have sx2 := Sl.below sx b2
              have sy2 := Sl.below sy b2
              have BF := BF.trans (b2.mono zz3)
              have zz3 := BF.size
              have D3 := Lib.hid (D3.out.below b2)
              clear b2 F1
              have F2 := spanJoin_any A Ax ny nx cy cx ly lx w2 sy2 sx2 (by omega) (by omega) hcy hcx
              rw [HU.out.2.1] at F2
              have F2 := Lib.hid F2
              go_wp2_with fail
              refine F2.out.mono ?_
              rintro e w3 ⟨Av, nv, cv, rfl, sv, hcv, -, b3⟩
              have su := Sl.below su b3
              have sx2 := Sl.below sx2 b3
              have sy2 := Sl.below sy2 b3
              have BF := BF.trans (b3.mono zz3)
              have zz3 := BF.size
              have D3 := Lib.hid (D3.out.below b3)
              have hnu : nu ≤ 140737488351232 := by have := SlS.len su; have := joinSL_len lx ly; omega
              clear b3 F2
              have F3 := sameS_any Au Av nu nv cu cv _ _ w3 su sv hnu
              rw [HU.out.2.2.1, beq_self_eq_true] at F3
              have F3 := Lib.hid F3
              go_wp2_with fail
              refine F3.out.mono ?_
              rintro e w4 ⟨rfl, dd, rfl⟩
              have su := Sl.drewN su dd
              have sx2 := Sl.drewN sx2 dd
              have sy2 := Sl.drewN sy2 dd
              have BF := below_drewN BF dd
              have zz3 := BF.size
              have D3 : Hid (Box2 (w3.drewN dd) w.heap.size 24 d1 d2) := D3
              have F4 := spanRight_any Au nu cu _ _ su hnu
              rw [HU.out.2.2.2.1] at F4
              have F4 := Lib.hid F4
              clear F3 sv
              go_wp2_with fail
              refine F4.out.mono ?_
              rintro e w5 ⟨rfl, b5⟩
              have su := Sl.below su b5
              have sx2 := Sl.below sx2 b5
              have sy2 := Sl.below sy2 b5
              have BF := BF.trans (b5.mono zz3)
              have zz3 := BF.size
              have D3 := D3.out.below b5
              have g0 := D3.c0
              have g1 := D3.c1
              have F5 := spanHas_any Au nu cu _ d1 d2 _ su hnu
              rw [HU.out.2.2.2.2.1] at F5
              have F5 := Lib.hid F5
              clear b5 F4 D3
              go_wp2_with fail
              refine F5.out.mono ?_
              rintro e w6 ⟨rfl, b6⟩
              have su := Sl.below su b6
              have sx2 := Sl.below sx2 b6
              have sy2 := Sl.below sy2 b6
              have BF := BF.trans (b6.mono zz3)
              have zz3 := BF.size
              have F6 := spanWithin_any Ax Au nx nu cx cu _ _ w6 sx2 su (by omega) hnu
              rw [HU.out.2.2.2.2.2.1] at F6
              have F6 := Lib.hid F6
              clear b6 F5 g0 g1
              go_wp2_with fail
              refine F6.out.mono ?_
              rintro e w7 ⟨rfl, b7⟩
              have su := Sl.below su b7
              have sx2 := Sl.below sx2 b7
              have sy2 := Sl.below sy2 b7
              have BF := BF.trans (b7.mono zz3)
              have zz3 := BF.size
              have F7 := spanWithin_any A Au ny nu cy cu _ _ w7 sy2 su (by omega) hnu
              rw [HU.out.2.2.2.2.2.2.1] at F7
              have F7 := Lib.hid F7
              clear b7 F6
              go_wp2_with fail
              refine F7.out.mono ?_
              rintro e w8 ⟨rfl, b8⟩
              have su := Sl.below su b8
              have sx2 := Sl.below sx2 b8
              have sy2 := Sl.below sy2 b8
              have BF := BF.trans (b8.mono zz3)
              have zz3 := BF.size
              have F8 := spanWithin_any Au Ax nu nx cu cx _ _ w8 su sx2 hnu (by omega)
              rw [HU.out.2.2.2.2.2.2.2] at F8
              have F8 := Lib.hid F8
              clear b8 F7
              go_wp2_with fail
              refine F8.out.mono ?_
              rintro e w9 ⟨rfl, b9⟩
              have sx2 := Sl.below sx2 b9
              have sy2 := Sl.below sy2 b9
              have BF := BF.trans (b9.mono zz3)
              have zz3 := BF.size
              have F9 := Lib.hid (spanWithin_any A Ax ny nx cy cx _ _ w9 sy2 sx2 (by omega) (by omega))
              clear b9 F8
              go_wp2_with fail
              refine F9.out.mono ?_
              rintro e w10 ⟨rfl, b10⟩
              go_wp2
              go_ret
              exact ⟨by simp, BF.trans (b10.mono zz3)⟩
      · clear hlt
        go_wp2
        go_loopw [8, 9, 10, 12] (fun v e b i wr => ∃ (k : Nat) (inb : Bool) (A : Option Addr) (ny cy : Nat) (ly : List Sp), i = .int .i64 (k : Int) ∧ e = .int .i64 0 ∧ b = .bool inb ∧ v = .slice A ny cy ∧ k ≤ len1 ∧ k ≤ 500 ∧ ny ≤ cy ∧ SlS wr A ny ly ∧ Hid (SetAt (has lx d1 d2) d1 d2 k ly inb) ∧ Below wx'.heap.size wx' wr) (fun _ _ _ i _ => len1 - (intOf i).toNat)
        case atStart => exact ⟨0, inb, none, 0, 0, [], rfl, rfl, rfl, rfl, Nat.zero_le _, by omega, Nat.le_refl _, Sl.nil _ _ _, SetAt.start HI.out, Below.refl _ _⟩
        case round =>
          obtain ⟨k, inb, A, ny, cy, ly, rfl, rfl, rfl, rfl, hk, hk5, hcy, sy, HS, hbel⟩ := hrel
          have hsz := hbel.size
          have hny : ny ≤ 500 := by have := SlS.len sy; have := HS.out.2.1; omega
          have j0 : (0 : Int) ≤ (k : Int) := by omega
          by_cases hlt : k < len1 ∧ k < 500
          · obtain ⟨hlt, h5⟩ := hlt
            obtain ⟨b, off, s, m, rfl, hx, hc0, hc1⟩ := SlD.at_ (Sl.below S1' hbel) hlt
            have j1 : (k : Int) < (len1 : Int) := by omega
            clear hx
            cases hd : dotB s m
            · have C0 := fun W => refDot_any s m W
              simp only [hd] at C0
              have C := Lib.hid C0
              have HN := Lib.hid HS.out.skip
              clear C0 hd
              go_wp2_with fail
              refine (C.out wr).mono ?_
              rintro e w2 ⟨rfl, b2⟩
              have R2 := Lib.hid (hbel.trans (b2.mono hsz))
              have sy := Sl.below sy b2
              clear b2 hbel
              go_wp2
              go_roundw
              case rel => exact ⟨k + 1, inb, A, ny, cy, ly, by go_num, rfl, rfl, rfl, by omega, by omega, hcy, sy, HN, R2.out⟩
              case measure => simp [intOf]; omega
            · have C0 := fun W => refDot_any s m W
              simp only [hd] at C0
              have C := Lib.hid C0
              have HD := Lib.hid hd
              clear C0 hd
              go_wp2_with fail
              refine (C.out wr).mono ?_
              rintro e w2 ⟨rfl, b2⟩
              have hbel := hbel.trans (b2.mono hsz)
              have hsz := hbel.size
              have sy := Sl.below sy b2
              have hc0 := (b2.cell (World.block_lt_of_cell? _ _ hc0)).trans hc0
              have hc1 := (b2.cell (World.block_lt_of_cell? _ _ hc1)).trans hc1
              have B2 := D2.out.below hbel
              have g0 := B2.c0
              have g1 := B2.c1
              clear b2 B2 C
              cases inb
              · by_cases q1 : s = d1
                · by_cases q2 : m = d2
                  · subst q1 q2
                    have v1 : (s == s) = true := beq_self_eq_true _
                    have v2 : (m == m) = true := beq_self_eq_true _
                    have HA := Lib.hid (HS.out.add HD.out h5 (inb' := true) (by simp))
                    go_wp2_with fail
                    go_quiet (fail)
                    have C1 := spanAdd_any A ny cy ly s m (w2.drewN nq) (Sl.drewN sy nq) (by omega) hcy
                    rw [HA.out.1] at C1
                    have C1 := Lib.hid C1
                    go_wp2_with fail
                    refine C1.out.mono ?_
                    rintro e w3 ⟨A3, n3, c3, rfl, s3, hc3, -, b3⟩
                    have R3 := Lib.hid ((below_drewN hbel nq).trans (b3.mono hsz))
                    clear b3 hbel hc0 hc1 g0 g1 C1
                    go_wp2
                    go_roundw
                    case rel => exact ⟨k + 1, true, A3, n3, c3, _, by go_num, rfl, rfl, rfl, by omega, by omega, hc3, s3, HA.out.2, R3.out⟩
                    case measure => simp [intOf]; omega
                  · subst q1
                    have v1 : (s == s) = true := beq_self_eq_true _
                    have v2 : (m == d2) = false := beq_eq_false_iff_ne.2 q2
                    have HA := Lib.hid (HS.out.add HD.out h5 (inb' := false) (by simp [q2]))
                    clear q2
                    go_wp2_with fail
                    go_quiet (fail)
                    have C1 := spanAdd_any A ny cy ly s m (w2.drewN nq) (Sl.drewN sy nq) (by omega) hcy
                    rw [HA.out.1] at C1
                    have C1 := Lib.hid C1
                    go_wp2_with fail
                    refine C1.out.mono ?_
                    rintro e w3 ⟨A3, n3, c3, rfl, s3, hc3, -, b3⟩
                    have R3 := Lib.hid ((below_drewN hbel nq).trans (b3.mono hsz))
                    clear b3 hbel hc0 hc1 g0 g1 C1
                    go_wp2
                    go_roundw
                    case rel => exact ⟨k + 1, false, A3, n3, c3, _, by go_num, rfl, rfl, rfl, by omega, by omega, hc3, s3, HA.out.2, R3.out⟩
                    case measure => simp [intOf]; omega
                · have v1 : (s == d1) = false := beq_eq_false_iff_ne.2 q1
                  have HA := Lib.hid (HS.out.add HD.out h5 (inb' := false) (by simp [q1]))
                  clear q1
                  go_wp2_with fail
                  go_quiet (fail)
                  have C1 := spanAdd_any A ny cy ly s m (w2.drewN nq) (Sl.drewN sy nq) (by omega) hcy
                  rw [HA.out.1] at C1
                  have C1 := Lib.hid C1
                  go_wp2_with fail
                  refine C1.out.mono ?_
                  rintro e w3 ⟨A3, n3, c3, rfl, s3, hc3, -, b3⟩
                  have R3 := Lib.hid ((below_drewN hbel nq).trans (b3.mono hsz))
                  clear b3 hbel hc0 hc1 g0 g1 C1
                  go_wp2
                  go_roundw
                  case rel => exact ⟨k + 1, false, A3, n3, c3, _, by go_num, rfl, rfl, rfl, by omega, by omega, hc3, s3, HA.out.2, R3.out⟩
                  case measure => simp [intOf]; omega
              · have HA := Lib.hid (HS.out.add HD.out h5 (inb' := true) (by simp))
                go_wp2_with fail
                go_quiet (fail)
                have C1 := spanAdd_any A ny cy ly s m (w2.drewN nq) (Sl.drewN sy nq) (by omega) hcy
                rw [HA.out.1] at C1
                have C1 := Lib.hid C1
                go_wp2_with fail
                refine C1.out.mono ?_
                rintro e w3 ⟨A3, n3, c3, rfl, s3, hc3, -, b3⟩
                have R3 := Lib.hid ((below_drewN hbel nq).trans (b3.mono hsz))
                clear b3 hbel hc0 hc1 g0 g1 C1
                go_wp2
                go_roundw
                case rel => exact ⟨k + 1, true, A3, n3, c3, _, by go_num, rfl, rfl, rfl, by omega, by omega, hc3, s3, HA.out.2, R3.out⟩
                case measure => simp [intOf]; omega
          · have HU := Lib.hid (sets_all HX.out HS.out hkx5 hk5)
            have BF := B1'.trans (hbel.mono zz2)
            have sx := Sl.below sx hbel
            have D3 := Lib.hid (D2.out.below hbel)
            have zz3 := BF.size
            clear hbel B1' D2 S1' hsz HI
            by_cases hB : k < len1
            · have h5 : ¬ k < 500 := fun h => hlt ⟨hB, h⟩
              clear hlt
              go_wp2_with fail
              have F1 := spanJoin_any Ax A nx ny cx cy lx ly wr sx sy (by omega) (by omega) hcx hcy
              rw [HU.out.1] at F1
              have F1 := Lib.hid F1
              refine F1.out.mono ?_
              rintro e w2 ⟨Au, nu, cu, rfl, su, hcu, -, b2⟩
              have sx2 := Sl.below sx b2
              have sy2 := Sl.below sy b2
              have BF := BF.trans (b2.mono zz3)
              have zz3 := BF.size
              have D3 := Lib.hid (D3.out.below b2)
              clear b2 F1
              have F2 := spanJoin_any A Ax ny nx cy cx ly lx w2 sy2 sx2 (by omega) (by omega) hcy hcx
              rw [HU.out.2.1] at F2
              have F2 := Lib.hid F2
              go_wp2_with fail
              refine F2.out.mono ?_
              rintro e w3 ⟨Av, nv, cv, rfl, sv, hcv, -, b3⟩
              have su := Sl.below su b3
              have sx2 := Sl.below sx2 b3
              have sy2 := Sl.below sy2 b3
              have BF := BF.trans (b3.mono zz3)
              have zz3 := BF.size
              have D3 := Lib.hid (D3.out.below b3)
              have hnu : nu ≤ 140737488351232 := by have := SlS.len su; have := joinSL_len lx ly; omega
              clear b3 F2
              have F3 := sameS_any Au Av nu nv cu cv _ _ w3 su sv hnu
              rw [HU.out.2.2.1, beq_self_eq_true] at F3
              have F3 := Lib.hid F3
              go_wp2_with fail
              refine F3.out.mono ?_
              rintro e w4 ⟨rfl, dd, rfl⟩
              have su := Sl.drewN su dd
              have sx2 := Sl.drewN sx2 dd
              have sy2 := Sl.drewN sy2 dd
              have BF := below_drewN BF dd
              have zz3 := BF.size
              have D3 : Hid (Box2 (w3.drewN dd) w.heap.size 24 d1 d2) := D3
              have F4 := spanRight_any Au nu cu _ _ su hnu
              rw [HU.out.2.2.2.1] at F4
              have F4 := Lib.hid F4
              clear F3 sv
              go_wp2_with fail
              refine F4.out.mono ?_
              rintro e w5 ⟨rfl, b5⟩
              have su := Sl.below su b5
              have sx2 := Sl.below sx2 b5
              have sy2 := Sl.below sy2 b5
              have BF := BF.trans (b5.mono zz3)
              have zz3 := BF.size
              have D3 := D3.out.below b5
              have g0 := D3.c0
              have g1 := D3.c1
              have F5 := spanHas_any Au nu cu _ d1 d2 _ su hnu
              rw [HU.out.2.2.2.2.1] at F5
              have F5 := Lib.hid F5
              clear b5 F4 D3
              go_wp2_with fail
              refine F5.out.mono ?_
              rintro e w6 ⟨rfl, b6⟩
              have su := Sl.below su b6
              have sx2 := Sl.below sx2 b6
              have sy2 := Sl.below sy2 b6
              have BF := BF.trans (b6.mono zz3)
              have zz3 := BF.size
              have F6 := spanWithin_any Ax Au nx nu cx cu _ _ w6 sx2 su (by omega) hnu
              rw [HU.out.2.2.2.2.2.1] at F6
              have F6 := Lib.hid F6
              clear b6 F5 g0 g1
              go_wp2_with fail
              refine F6.out.mono ?_
              rintro e w7 ⟨rfl, b7⟩
              have su := Sl.below su b7
              have sx2 := Sl.below sx2 b7
              have sy2 := Sl.below sy2 b7
              have BF := BF.trans (b7.mono zz3)
              have zz3 := BF.size
              have F7 := spanWithin_any A Au ny nu cy cu _ _ w7 sy2 su (by omega) hnu
              rw [HU.out.2.2.2.2.2.2.1] at F7
              have F7 := Lib.hid F7
              clear b7 F6
              go_wp2_with fail
              refine F7.out.mono ?_
              rintro e w8 ⟨rfl, b8⟩
              have su := Sl.below su b8
              have sx2 := Sl.below sx2 b8
              have sy2 := Sl.below sy2 b8
              have BF := BF.trans (b8.mono zz3)
              have zz3 := BF.size
              have F8 := spanWithin_any Au Ax nu nx cu cx _ _ w8 su sx2 hnu (by omega)
              rw [HU.out.2.2.2.2.2.2.2] at F8
              have F8 := Lib.hid F8
              clear b8 F7
              go_wp2_with fail
              refine F8.out.mono ?_
              rintro e w9 ⟨rfl, b9⟩
              have sx2 := Sl.below sx2 b9
              have sy2 := Sl.below sy2 b9
              have BF := BF.trans (b9.mono zz3)
              have zz3 := BF.size
              have F9 := Lib.hid (spanWithin_any A Ax ny nx cy cx _ _ w9 sy2 sx2 (by omega) (by omega))
              clear b9 F8
              go_wp2_with fail
              refine F9.out.mono ?_
              rintro e w10 ⟨rfl, b10⟩
              go_wp2
              go_ret
              exact ⟨by simp, BF.trans (b10.mono zz3)⟩
            · clear hlt
              go_wp2_with fail
              have F1 := spanJoin_any Ax A nx ny cx cy lx ly wr sx sy (by omega) (by omega) hcx hcy
              rw [HU.out.1] at F1
              have F1 := Lib.hid F1
              refine F1.out.mono ?_
              rintro e w2 ⟨Au, nu, cu, rfl, su, hcu, -, b2⟩
              have sx2 := Sl.below sx b2
              have sy2 := Sl.below sy b2
              have BF := BF.trans (b2.mono zz3)
              have zz3 := BF.size
              have D3 := Lib.hid (D3.out.below b2)
              clear b2 F1
              have F2 := spanJoin_any A Ax ny nx cy cx ly lx w2 sy2 sx2 (by omega) (by omega) hcy hcx
              rw [HU.out.2.1] at F2
              have F2 := Lib.hid F2
              go_wp2_with fail
              refine F2.out.mono ?_
              rintro e w3 ⟨Av, nv, cv, rfl, sv, hcv, -, b3⟩
              have su := Sl.below su b3
              have sx2 := Sl.below sx2 b3
              have sy2 := Sl.below sy2 b3
              have BF := BF.trans (b3.mono zz3)
              have zz3 := BF.size
              have D3 := Lib.hid (D3.out.below b3)
              have hnu : nu ≤ 140737488351232 := by have := SlS.len su; have := joinSL_len lx ly; omega
              clear b3 F2
              have F3 := sameS_any Au Av nu nv cu cv _ _ w3 su sv hnu
              rw [HU.out.2.2.1, beq_self_eq_true] at F3
              have F3 := Lib.hid F3
              go_wp2_with fail
              refine F3.out.mono ?_
              rintro e w4 ⟨rfl, dd, rfl⟩
              have su := Sl.drewN su dd
              have sx2 := Sl.drewN sx2 dd
              have sy2 := Sl.drewN sy2 dd
              have BF := below_drewN BF dd
              have zz3 := BF.size
              have D3 : Hid (Box2 (w3.drewN dd) w.heap.size 24 d1 d2) := D3
              have F4 := spanRight_any Au nu cu _ _ su hnu
              rw [HU.out.2.2.2.1] at F4
              have F4 := Lib.hid F4
              clear F3 sv
              go_wp2_with fail
              refine F4.out.mono ?_
              rintro e w5 ⟨rfl, b5⟩
              have su := Sl.below su b5
              have sx2 := Sl.below sx2 b5
              have sy2 := Sl.below sy2 b5
              have BF := BF.trans (b5.mono zz3)
              have zz3 := BF.size
              have D3 := D3.out.below b5
              have g0 := D3.c0
              have g1 := D3.c1
              have F5 := spanHas_any Au nu cu _ d1 d2 _ su hnu
              rw [HU.out.2.2.2.2.1] at F5
              have F5 := Lib.hid F5
              clear b5 F4 D3
              go_wp2_with fail
              refine F5.out.mono ?_
              rintro e w6 ⟨rfl, b6⟩
              have su := Sl.below su b6
              have sx2 := Sl.below sx2 b6
              have sy2 := Sl.below sy2 b6
              have BF := BF.trans (b6.mono zz3)
              have zz3 := BF.size
              have F6 := spanWithin_any Ax Au nx nu cx cu _ _ w6 sx2 su (by omega) hnu
              rw [HU.out.2.2.2.2.2.1] at F6
              have F6 := Lib.hid F6
              clear b6 F5 g0 g1
              go_wp2_with fail
              refine F6.out.mono ?_
              rintro e w7 ⟨rfl, b7⟩
              have su := Sl.below su b7
              have sx2 := Sl.below sx2 b7
              have sy2 := Sl.below sy2 b7
              have BF := BF.trans (b7.mono zz3)
              have zz3 := BF.size
              have F7 := spanWithin_any A Au ny nu cy cu _ _ w7 sy2 su (by omega) hnu
              rw [HU.out.2.2.2.2.2.2.1] at F7
              have F7 := Lib.hid F7
              clear b7 F6
              go_wp2_with fail
              refine F7.out.mono ?_
              rintro e w8 ⟨rfl, b8⟩
              have su := Sl.below su b8
              have sx2 := Sl.below sx2 b8
              have sy2 := Sl.below sy2 b8
              have BF := BF.trans (b8.mono zz3)
              have zz3 := BF.size
              have F8 := spanWithin_any Au Ax nu nx cu cx _ _ w8 su sx2 hnu (by omega)
              rw [HU.out.2.2.2.2.2.2.2] at F8
              have F8 := Lib.hid F8
              clear b8 F7
              go_wp2_with fail
              refine F8.out.mono ?_
              rintro e w9 ⟨rfl, b9⟩
              have sx2 := Sl.below sx2 b9
              have sy2 := Sl.below sy2 b9
              have BF := BF.trans (b9.mono zz3)
              have zz3 := BF.size
              have F9 := Lib.hid (spanWithin_any A Ax ny nx cy cx _ _ w9 sy2 sx2 (by omega) (by omega))
              clear b9 F8
              go_wp2_with fail
              refine F9.out.mono ?_
              rintro e w10 ⟨rfl, b10⟩
              go_wp2
              go_ret
              exact ⟨by simp, BF.trans (b10.mono zz3)⟩
end Go.Proofs.Ytdndjegpkbdbeaa
