/-
  firthlaw05.VersKeeps: the walk.
-/
import Derived.Test.YtlcfknpmnoghbaaVersMergesWalk
import Derived.Test.YtlcfknpmnoghbaaFoot
namespace Go.Proofs.Ytlcfknpmnoghbaa
open Go.RowKit
set_option linter.unusedVariables false

theorem own_empty' (w : World) (e : TypeId) (base g sz : Nat) (hg : g = w.heap.size) (hb : base ≤ g) : (w.alloc (.cells #[] e)).ownsRow base e sz (.slice (some ⟨g, 0, none⟩) 0 0) 0 [] := by
  subst hg
  exact World.ownsRow_lit w #[] 0 hb (by unfold maxLen; omega) (by simp)
/-- Whatever is stored wherever, a row stays a row. -/
theorem own_some_set {w : World} {B : Nat} {e : TypeId} {sz n : Nat} {v : Value} (h : ∃ ps, w.ownsRow B e sz v n ps) (b j : Nat) (u : Value) : ∃ ps, (w.setCell ⟨b, j, none⟩ u).ownsRow B e sz v n ps := by
  obtain ⟨ps, h1, h2⟩ := h
  rcases h2 with ⟨rfl, rfl⟩ | ⟨g, cap, cur, rfl, hb, hg, hn, hm, hs, ht⟩
  · exact ⟨[], by simp, .inl ⟨rfl, rfl⟩⟩
  · by_cases hbg : b = g
    · subst hbg
      refine ⟨(cur.setIfInBounds j u).toList.take (n * sz), ?_, .inr ⟨b, cap, cur.setIfInBounds j u, rfl, hb, heap_setCell_same w b j cur e u hg, hn, hm, by simpa using hs, rfl⟩⟩
      rw [List.length_take, Array.length_toList, Array.size_setIfInBounds, hs]
      exact Nat.min_eq_left (Nat.mul_le_mul_right _ hn)
    · exact ⟨ps, h1, .inr ⟨g, cap, cur, rfl, hb, (Below.heap_setCell w ⟨b, j, none⟩ u g (fun e => hbg e.symm)).trans hg, hn, hm, hs, ht⟩⟩
/-- What is left of a set that is being spoilt: its row with the heads of its Pasts, and the Pasts' rows. -/
structure Spoil (w0 w : World) (B S : Nat) (v : Value) (n : Nat) (rows : List RV) : Prop where
  row : ∃ xs, w.ownsRow B 28 5 v n xs ∧ ∀ (i : Nat) (y : RV), rows[i]? = some y → xs[i * 5 + 2]? = some (.slice y.2.1 y.2.2.1 y.2.2.2)
  pasts : ∀ y ∈ rows, ∃ ps, w.ownsRow B 42 3 (.slice y.2.1 y.2.2.1 y.2.2.2) y.2.2.1 ps
  fr : Fr (fun i => B ≤ i ∧ i < S) w0 w
  rlt : ∀ g, v.ownBlock = some g → g < S
  plt : ∀ y ∈ rows, ∀ g, (Value.slice y.2.1 y.2.2.1 y.2.2.2).ownBlock = some g → g < S
section
variable {w0 w : World} {B S : Nat} {A : Option Addr} {c : Nat} {n : Nat} {rows : List RV}
theorem flat_at2 : ∀ (rows : List RV) (i : Nat) (y : RV), rows[i]? = some y → (rows.flatMap vV1)[i * 5 + 2]? = some (.slice y.2.1 y.2.2.1 y.2.2.2)
  | [], i, y, h => by simp at h
  | z :: r, 0, y, h => by
    simp only [List.getElem?_cons_zero, Option.some.injEq] at h
    subst h
    rfl
  | z :: r, i + 1, y, h => by
    simp only [List.getElem?_cons_succ] at h
    have e : (i + 1) * 5 + 2 = (i * 5 + 2) + 5 := by omega
    rw [List.flatMap_cons, e, List.getElem?_append_right (by rw [vV1_len]; omega), vV1_len, Nat.add_sub_cancel]
    exact flat_at2 r i y h
theorem Spoil.start (h0 : OwnV w0 B (.slice A n c) n rows) (b : Below w0.heap.size w0 w) : Spoil w w B w0.heap.size (.slice A n c) n rows := by
  have h := h0.below b
  exact ⟨⟨_, h.1, fun i y hy => flat_at2 rows i y hy⟩, fun y hy => ⟨_, (h.2 y hy).1⟩, Fr.refl _ _, fun g hg => (h0.1.lt g hg).2, fun y hy g hg => ((h0.2 y hy).1.lt g hg).2⟩
theorem own_blk {e : TypeId} {sz : Nat} {xs : List Value} (h : w.ownsRow B e sz (.slice A n c) n xs) (hn : 0 < n) : ∃ g, A = some ⟨g, 0, none⟩ ∧ B ≤ g ∧ g < w.heap.size := by
  rcases h.2 with ⟨_, h0⟩ | ⟨g, cap, cur, e, hb, hg, _⟩
  · omega
  · injection e with e1 e2 e3
    exact ⟨g, e1, hb, (Array.getElem?_eq_some_iff.1 hg).1⟩
/-- The version's own cells: the head of its Past, and its text. -/
theorem Spoil.at_ (h : Spoil w0 w B S (.slice A n c) n rows) {i : Nat} {y : RV} (hy : rows[i]? = some y) (hi : i < n) :
    ∃ g, A = some ⟨g, 0, none⟩ ∧ w.cell? ⟨g, i * 5 + 2, none⟩ = some (.slice y.2.1 y.2.2.1 y.2.2.2) ∧ (∃ u, w.cell? ⟨g, i * 5 + 4, none⟩ = some u) ∧ (∀ j, w.frozen? ⟨g, j, none⟩ = false) ∧ B ≤ g := by
  obtain ⟨xs, h1, h2⟩ := h.row
  obtain ⟨g, rfl, hg, _⟩ := own_blk h1 (by omega)
  refine ⟨g, rfl, ?_, ?_, fun j => h1.frozenAt j, hg⟩
  · rw [h1.cellAt _ (by omega)]; exact h2 i y hy
  · rw [h1.cellAt _ (by omega)]
    exact ⟨_, List.getElem?_eq_getElem (by rw [h1.1]; omega)⟩
theorem Spoil.past (h : Spoil w0 w B S (.slice A n c) n rows) {i : Nat} {y : RV} (hy : rows[i]? = some y) {k : Nat} (hk : k < y.2.2.1) :
    ∃ g, y.2.1 = some ⟨g, 0, none⟩ ∧ (∃ u, w.cell? ⟨g, k * 3 + 2, none⟩ = some u) ∧ (∀ j, w.frozen? ⟨g, j, none⟩ = false) ∧ B ≤ g := by
  obtain ⟨ps, h1⟩ := h.pasts y (List.mem_of_getElem? hy)
  obtain ⟨g, e, hg, _⟩ := own_blk h1 (by omega)
  rw [e] at h1
  refine ⟨g, e, ?_, fun j => h1.frozenAt j, hg⟩
  rw [h1.cellAt _ (by omega)]
  exact ⟨_, List.getElem?_eq_getElem (by rw [h1.1]; omega)⟩
theorem Spoil.setPast (h : Spoil w0 w B S (.slice A n c) n rows) {i : Nat} {y : RV} (hy : rows[i]? = some y) {g : Nat} (hg : y.2.1 = some ⟨g, 0, none⟩) (j : Nat) (u : Value) :
    Spoil w0 (w.setCell ⟨g, j, none⟩ u) B S (.slice A n c) n rows := by
  obtain ⟨ps, hp⟩ := h.pasts y (List.mem_of_getElem? hy)
  rw [hg] at hp
  have hB := (hp.lt g rfl).1
  have hb : g < S := h.plt y (List.mem_of_getElem? hy) g (by rw [hg]; rfl)
  obtain ⟨xs, h1, h2⟩ := h.row
  refine ⟨⟨xs, ownsRow_setCell_other h1 (fun e => ?_) u, h2⟩, fun z hz => own_some_set (h.pasts z hz) g j u, h.fr.trans (Fr.set w ⟨g, j, none⟩ u) fun k hk => .inl (by have hk2 : k = g := hk; subst hk2; exact ⟨hB, hb⟩), h.rlt, h.plt⟩
  rcases own_far hp h1 (by decide) with h3 | h3
  · cases h3
  · exact h3 e.symm
theorem Spoil.setVal (h : Spoil w0 w B S (.slice A n c) n rows) {g i : Nat} (hA : A = some ⟨g, 0, none⟩) (u : Value) :
    Spoil w0 (w.setCell ⟨g, i * 5 + 4, none⟩ u) B S (.slice A n c) n rows := by
  subst hA
  have hb : g < S := h.rlt g rfl
  obtain ⟨xs, h1, h2⟩ := h.row
  have hB := (h1.lt g rfl).1
  refine ⟨⟨_, (h1.stored (i * 5 + 4) u).1, fun k y hk => ?_⟩, fun z hz => own_some_set (h.pasts z hz) g _ u, h.fr.trans (Fr.set w ⟨g, i * 5 + 4, none⟩ u) fun k hk => .inl (by have hk2 : k = g := hk; subst hk2; exact ⟨hB, hb⟩), h.rlt, h.plt⟩
  rw [List.getElem?_set_ne (by omega)]
  exact h2 k y hk
end
set_option maxHeartbeats 4000000 in
set_option maxRecDepth 100000 in
theorem versKeeps_any (a0 a1 : Option Addr) (len0 cap0 len1 cap1 : Nat) (la lb : List Vr) (w : World) (s0 : SlV w a0 len0 la) (s1 : SlV w a1 len1 lb)
    (n0 : len0 ≤ 140737488351232) (n1 : len1 ≤ 140737488351232) :
    Calls Try.prog 7 #[.slice a0 len0 cap0, .slice a1 len1 cap1] w fun e w' => e = .returned (.bool true) ∧ Below w.heap.size w w' := by
  obtain ⟨i0, hi, hz0, hz1, hz2⟩ := info_parts Try.infoVer
  obtain ⟨j0, ki, kz0, kz1, kz2⟩ := info_parts Try.infoSpan
  have S0 := Lib.hid s0
  have S1 := Lib.hid s1
  have C0 := Lib.hid (fun W : World => awakeV_any W)
  have c1 := fun W (b : Below w.heap.size w W) => refMerge_any a0 a1 len0 len1 cap0 cap1 la lb W (S0.out.below b) (S1.out.below b) n0 n1
  have c2 := fun W (b : Below w.heap.size w W) => merge_any a0 a1 len0 len1 cap0 cap1 la lb W (S0.out.below b) (S1.out.below b) n0 n1
  have hm := merged_len la lb
  obtain ⟨E, hE⟩ : ∃ E, mrgE la lb = E := ⟨_, rfl⟩
  obtain ⟨X, hX⟩ : ∃ X, mergedL la lb = X := ⟨_, rfl⟩
  rw [hE, hX] at c1 c2
  rw [hX] at hm
  have C1 := Lib.hid c1
  have C2 := Lib.hid c2
  clear s0 s1 c1 c2 hE hX
  go_enter Try.func7, Try.ntmps7
  go_wp2_with fail
  refine (C0.out _).mono ?_
  rintro e w1 ⟨rfl, b1⟩
  have HB1 := Lib.hid b1
  clear b1 C0
  go_wp2_with fail
  refine (C1.out _ HB1.out).mono ?_
  rintro e w2 ⟨A2, n2, c2, rfl, s2, hc2, b2⟩
  have HB2 := Lib.hid (HB1.out.trans (b2.mono HB1.out.size))
  have hn2 := s2.len
  have Y2 := Lib.hid s2
  clear s2 b2 C1
  go_wp2
  go_loopw [7, 8] (fun t7 t8 wr => ∃ (k : Nat) (Ao : Option Addr) (co : Nat) (rows : List RV), t7 = .slice Ao k co ∧ t8 = .int .i64 (k : Int) ∧ k ≤ n2 ∧ Hid (OwnV wr w2.heap.size (.slice Ao k co) k rows) ∧ Hid (rows.map (·.1) = X.take k) ∧ Hid (Below w2.heap.size w2 wr)) (fun _ t8 _ => n2 - (intOf t8).toNat)
  case atStart => exact ⟨0, none, 0, [], rfl, rfl, Nat.zero_le _, OwnV.nil _ _, rfl, Below.refl _ _⟩
  case round =>
    obtain ⟨k, Ao, co, rows, rfl, rfl, hk, HO, HM, hbel⟩ := hrel
    have hsz := hbel.out.size
    by_cases hlt : k < n2
    · obtain ⟨b, off, v, Ap, np, cp, e0, hx, hr, hc0, hc1, hc2', hc3, hc4⟩ := (Y2.out.below hbel.out).at_ hlt
      subst e0
      obtain ⟨s, m, past, g, val⟩ := v
      simp only at hc0 hc1 hc2' hc3 hc4
      have HX := Lib.hid hx
      have HR := Lib.hid hr
      have hlen := hr.len
      have HBX := Lib.hid (BoxV.new wr ⟨s, m, past, g, val⟩ Ap np cp)
      have HBA := Lib.hid (show Below wr.heap.size wr (wr.alloc (.cells #[.int .i64 s, .int .i64 m, .slice Ap np cp, .bool g, .string val] 28)) from (Below.refl _ _).alloc (Nat.le_refl _) _)
      clear hx hr
      go_wp2_with (first | (at_builtin; refine wpList_append_sl _ rfl (.tmp 35) (.tmp 37) 26 rfl (wr.heap.size + 1) 42 j0 (.agg #[.int .i64 0, .int .i64 0, .int .i64 0]) 3 24 Try.underlying26 ki kz0 kz1 kz2 rfl (by decide) (.slice (some ⟨wr.heap.size + 1, 0, none⟩) 0 0) (0) ([]) rfl (own_empty' (wr.alloc (.cells #[.int .i64 s, .int .i64 m, .slice Ap np cp, .bool g, .string val] 28)) _ (wr.heap.size + 1) _ 3 (by simp) (Nat.le_refl _)) (Ap) (np) (cp) (spV past) rfl (Sl.alloc (Sl.below HR.out.sl HBA.out) _) (spV_one _) (by unfold maxLen; omega) (by omega) (by simp) ?_) | fail)
      intro v3 w3 own3 g3 _
      obtain ⟨A3, c3, rfl, hc3', -⟩ := own_slice own3
      have b3 : Below (wr.heap.size + 1) (wr.alloc (.cells #[.int .i64 s, .int .i64 m, .slice Ap np cp, .bool g, .string val] 28)) w3 := ((Below.refl _ _).alloc (by simp) _).grown g3 (by simp) (fun q hq => by simp [Value.ownBlock] at hq; subst hq; exact Nat.le_refl _)
      have b3' := HBA.out.trans (b3.mono (Nat.le_succ _))
      have HB3 := Lib.hid (show BoxV w3 wr.heap.size ⟨s, m, past, g, val⟩ Ap np cp from (b3.block wr.heap.size (by omega)).trans HBX.out)
      have HW3 := Lib.hid b3'
      have HP := Lib.hid own3
      have r0 := HB3.out.c0
      have r1 := HB3.out.c1
      have r2 := HB3.out.c2
      have r3 := HB3.out.c3
      have r4 := HB3.out.c4
      have r5 := frozen_of_row w3 wr.heap.size 2 _ 28 HB3.out
      have ls3 := HW3.out.size
      have ls3' := HB3.out.lt
      have hfar := HO.out.far (Nat.le_refl wr.heap.size)
      have HO4 := Lib.hid ((ownsRow_setCell_other (own_below HO.out.1 HW3.out) hfar.1 (.slice A3 np c3) (a := ⟨wr.heap.size, 2, none⟩)).alloc (.cells #[.int .i64 s, .int .i64 m, .slice A3 np c3, .bool g, .string val] 28))
      have hsl := sl_ver (w3.setCell ⟨wr.heap.size, 2, none⟩ (.slice A3 np c3)) (⟨s, m, past, g, val⟩, A3, np, c3) 28
      rw [World.size_setCell] at hsl
      have HSL := Lib.hid hsl
      clear b3 b3' own3 g3 hfar hsl hc0 hc1 hc2' hc3 hc4
      go_wp2_with (first | (at_builtin; refine wpList_append_sl _ rfl (.tmp 40) (.tmp 42) 22 rfl (w2.heap.size) 28 i0 (.agg #[.int .i64 0, .int .i64 0, .slice none 0 0, .bool false, .string ⟨#[]⟩]) 5 64 Try.underlying22 hi hz0 hz1 hz2 rfl (by decide) (.slice Ao k co) (k) (rows.flatMap vV1) rfl (HO4.out) (some ⟨w3.heap.size, 0, none⟩) (1) (1) ([.int .i64 s, .int .i64 m, .slice A3 np c3, .bool g, .string val]) rfl (HSL.out) (vV1_one (⟨s, m, past, g, val⟩, A3, np, c3)) (by unfold maxLen; omega) (by omega) (by simp; omega) ?_) | fail)
      intro v5 w6 own6 hg6 _
      obtain ⟨A5, c5, rfl, h5, _⟩ := own_slice own6
      have MP := Lib.hid (OwnV.copy (v := ⟨s, m, past, g, val⟩) HO.out hbel.out HP.out (VFix.mk hc3' HR.out.len HR.out.wf HR.out.wfp HR.out.str) (by omega) HW3.out ls3' own6 hg6)
      have HS := Lib.hid (show X.take (k + 1) = X.take k ++ [(⟨s, m, past, g, val⟩ : Vr)] from by rw [List.take_add_one, HX.out]; rfl)
      clear own6 hg6
      go_wp2
      go_roundw
      case rel => exact ⟨k + 1, A5, c5, rows ++ [((⟨s, m, past, g, val⟩ : Vr), A3, np, c3)], rfl, by go_num, by omega, MP.out.1, by rw [HS.out, List.map_append, HM.out]; rfl, MP.out.2⟩
      case measure => simp [intOf]; omega
    · obtain rfl : k = n2 := by omega
      have HMX := Lib.hid (show rows.map (·.1) = X from by rw [HM.out, List.take_of_length_le (by omega)])
      have HBr := Lib.hid (HB2.out.trans (hbel.out.mono HB2.out.size))
      obtain ⟨wo, rfl⟩ : ∃ wo : World, wo = wr := ⟨_, rfl⟩
      clear hbel
      go_wp2_with fail
      refine (C2.out _ HBr.out).mono ?_
      rintro e w4 ⟨A4, n4, c4, rows4, rfl, own4, hr4, hc4, b4⟩
      have x4 := own4.slv
      rw [hr4] at x4
      have hn4 := x4.len
      obtain rfl : n4 = k := by omega
      have HX4 := Lib.hid own4
      have HO4 := Lib.hid (HO.out.below b4)
      have HB4 := Lib.hid (HBr.out.trans (b4.mono HBr.out.size))
      have hl4 := own4.len
      have C5 := Lib.hid (shown_any A4 n4 c4 X w4 x4 (by omega))
      have hsz4 := b4.size
      have BW4 := Lib.hid b4
      clear own4 hr4 hc4 b4 x4
      go_wp2_with fail
      refine C5.out.mono ?_
      rintro e w5 ⟨A5, n5, c5, rows5, rfl, own5, hr5, hc5, b5⟩
      have HSP := Lib.hid (Spoil.start HX4.out b5)
      have HU5 := Lib.hid (And.intro own5 hr5)
      have BW5 := Lib.hid b5
      have hsz5 := b5.size
      clear own5 hr5 hc5 b5 C5
      go_wp2
      go_loopw [13] (fun t wr => ∃ (i : Nat), t = .int .i64 (i : Int) ∧ i ≤ n4 ∧ Hid (Spoil w5 wr wo.heap.size w4.heap.size (.slice A4 n4 c4) n4 rows4)) (fun t _ => n4 - (intOf t).toNat)
      case atStart => exact ⟨0, rfl, Nat.zero_le _, HSP⟩
      case round =>
        obtain ⟨i, rfl, hi', HQ⟩ := hrel
        by_cases hlt : i < n4
        · obtain ⟨y, hy⟩ : ∃ y, rows4[i]? = some y := ⟨_, List.getElem?_eq_getElem (by omega)⟩
          obtain ⟨v, Ap, np, cp⟩ := y
          have HY := Lib.hid hy
          have hnp : np * 24 ≤ 140737488351232 := (HX4.out.2 _ (List.mem_of_getElem? hy)).2.len
          clear hy
          obtain ⟨wm, rfl⟩ : ∃ wm : World, wm = wr := ⟨_, rfl⟩
          go_wp2
          go_loopw [14] (fun t wr => ∃ (j : Nat), t = .int .i64 (j : Int) ∧ j ≤ np ∧ Hid (Spoil w5 wr wo.heap.size w4.heap.size (.slice A4 n4 c4) n4 rows4)) (fun t _ => np - (intOf t).toNat)
          case atStart => exact ⟨0, rfl, Nat.zero_le _, HQ⟩
          case round =>
            obtain ⟨j, rfl, hj, HQ⟩ := hrel
            obtain ⟨g, hA, f2, ⟨u4, f4⟩, fz, hBg⟩ := HQ.out.at_ HY.out hlt
            subst hA
            simp only at f2
            by_cases hlt2 : j < np
            · obtain ⟨gp, hAp, ⟨u2, p2⟩, pz, hBp⟩ := HQ.out.past HY.out (k := j) hlt2
              simp only at hAp
              subst hAp
              have z2 := pz (j * 3 + 2)
              have HN := Lib.hid (HQ.out.setPast HY.out rfl (j * 3 + 2) (.int .i64 (-5)))
              clear fz f4 pz
              go_wp2
              go_roundw
              case rel => exact ⟨j + 1, by go_num, by omega, HN⟩
              case measure => simp [intOf]; omega
            · obtain rfl : j = np := by omega
              have z4 := fz (i * 5 + 4)
              have HN := Lib.hid (HQ.out.setVal (i := i) rfl (.string ⟨#[115, 112, 111, 105, 108, 116]⟩))
              clear fz
              go_wp2
              go_roundw
              case rel => exact ⟨i + 1, by go_num, by omega, HN⟩
              case measure => simp [intOf]; omega
        · obtain rfl : n4 = i := by omega
          have bq : Below wo.heap.size w5 wr := HQ.out.fr.below (fun k hk => hk.1) (by omega)
          have HB6 := Lib.hid (HB4.out.trans ((BW5.out.mono HB4.out.size).trans (bq.mono (by have := HBr.out.size; omega))))
          have own6 := HO.out.below (BW4.out.trans ((BW5.out.mono hsz4).trans bq))
          have o6 := own6.slv
          rw [HMX.out] at o6
          have HO6 := Lib.hid o6
          have kp : Kept (fun i => w4.heap.size ≤ i) w5 wr := HQ.out.fr.kept fun i hi hf => by have h1 : w4.heap.size ≤ i := hi; have h2 : wo.heap.size ≤ i ∧ i < w4.heap.size := hf; omega
          have u6 : OwnV wr w4.heap.size (.slice A5 n5 c5) n5 rows5 := ⟨own_keep HU5.out.1.1 (fun g hg => (HU5.out.1.1.lt g hg).1) kp, fun y hy => ⟨own_keep (HU5.out.1.2 y hy).1 (fun g hg => ((HU5.out.1.2 y hy).1.lt g hg).1) kp, (HU5.out.1.2 y hy).2⟩⟩
          have v6 := u6.slv
          rw [HU5.out.2] at v6
          have HU6 := Lib.hid v6
          have hl5 := v6.len
          have hsl := shown_len X
          clear bq own6 o6 kp u6 v6 HQ HSP HU5 BW5 BW4 HX4
          go_wp2_with fail
          refine (C2.out _ HB6.out).mono ?_
          rintro e w7 ⟨A7, n7, c7, rows7, rfl, own7, hr7, hc7, b7⟩
          have x7 := own7.slv
          rw [hr7] at x7
          have hn7 := x7.len
          have HO7 := Lib.hid (HO6.out.below b7)
          have HU7 := Lib.hid (HU6.out.below b7)
          have HB7 := Lib.hid (HB6.out.trans (b7.mono HB6.out.size))
          have c8 := refSameV_any A7 Ao n7 n4 c7 co X X w7 x7 HO7.out (by omega) (by omega)
          rw [lEq_self] at c8
          have C8 := Lib.hid c8
          clear own7 hr7 hc7 b7 x7 c8
          go_wp2_with fail
          refine C8.out.mono ?_
          rintro e w8 ⟨rfl, b8⟩
          have HO8 := Lib.hid (HO7.out.below b8)
          have HU8 := Lib.hid (HU7.out.below b8)
          have HB8 := Lib.hid (HB7.out.trans (b8.mono HB7.out.size))
          have C9 := Lib.hid (refShown_any Ao n4 co X w8 HO8.out (by omega))
          clear b8 C8
          go_wp2_with fail
          refine C9.out.mono ?_
          rintro e w9 ⟨A9, n9, c9, rfl, s9, hc9, b9⟩
          have hn9 := s9.len
          have HB9 := Lib.hid (HB8.out.trans (b9.mono HB8.out.size))
          have c10 := refSameV_any A5 A9 n5 n9 c5 c9 _ _ w9 (HU8.out.below b9) s9 (by omega) (by omega)
          rw [lEq_self] at c10
          have C10 := Lib.hid c10
          clear b9 s9 c10 C9
          go_wp2_with fail
          refine C10.out.mono ?_
          rintro e w10 ⟨rfl, b10⟩
          have HB := Lib.hid (HB9.out.trans (b10.mono HB9.out.size))
          clear b10
          go_wp2
          go_ret
          exact ⟨rfl, HB.out⟩
set_option maxRecDepth 100000 in
theorem versKeeps_walk (a0 : Option Addr) (len0 cap0 : Nat) (x0 : List vrSh.T) (a1 : Option Addr) (len1 cap1 : Nat) (x1 : List vrSh.T) (w : World)
    (t0 : Rd w (.sl 64 vrSh) [.slice a0 len0 cap0] x0) (t1 : Rd w (.sl 64 vrSh) [.slice a1 len1 cap1] x1) :
    Calls Try.prog 7 #[.slice a0 len0 cap0, .slice a1 len1 cap1] w fun e w' => e = .returned (.bool true) ∧ Below w.heap.size w w' := by
  obtain ⟨s0, b0, z0⟩ := Rd.vers t0
  obtain ⟨s1, b1, z1⟩ := Rd.vers t1
  exact versKeeps_any a0 a1 len0 cap0 len1 cap1 _ _ w s0 s1 (by omega) (by omega)
end Go.Proofs.Ytlcfknpmnoghbaa
