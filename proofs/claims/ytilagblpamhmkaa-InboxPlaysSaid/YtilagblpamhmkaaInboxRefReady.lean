/-
  firthref18: Ready.
-/
import Derived.Test.YtilagblpamhmkaaInboxRefTake
import Derived.Test.YtilagblpamhmkaaInboxReady2
namespace Go.Proofs.Ytilagblpamhmkaa
open Go.RowKit
set_option linter.unusedVariables false

theorem Try.infoRFarSize : (Try.prog.info? 61).map (·.size) = some 5 := by kernel_rfl
/-- What Ready leaves. -/
def RRdTo (w : World) (fp : Nat → Prop) (q : Nat) (room : Int) (l : List Fa) (v : List Int) (e : Ending) (w' : World) : Prop :=
  match readyI l v with
  | none => e = .returned (.tuple #[.agg #[.int .i64 0, .int .i64 0, .string ⟨#[]⟩, .slice none 0 0, .slice none 0 0], .bool false]) ∧ RInG w' fp q room l ∧ Fr fp w w'
  | some k => ∃ (y : RFa) (fp' : Nat → Prop), l[k]? = some y.1 ∧ e = .returned (.tuple #[.agg #[.int .i64 y.1.src, .int .i64 y.1.seq, .string y.1.rc.key, .slice y.2.1.1 y.2.1.2.1 y.2.1.2.2, .slice y.2.2.1 y.2.2.2.1 y.2.2.2.2], .bool true]) ∧ FaD w' fp y ∧ RInG w' fp' q room (l.eraseIdx k) ∧ Fr fp w w' ∧ Grow w fp fp'
theorem flatF_one (rows : List RFa) : ∀ u ∈ rows.flatMap fV1, u.oneCell' = true := by
  intro u hu
  obtain ⟨y, _, h⟩ := List.mem_flatMap.1 hu
  exact fV1_one y u h
theorem Sl.front {w : World} {g n k : Nat} {rows : List RFa} (h : Sl w (some ⟨g, 0, none⟩) n 5 (rows.flatMap fV1)) (hk : k ≤ n) : Sl w (some ⟨g, 0, none⟩) k 5 ((rows.take k).flatMap fV1) := by
  have hl := h.1
  rw [flat_len fV1_len] at hl
  refine ⟨by rw [flat_len fV1_len, List.length_take]; rw [Nat.min_eq_left (by omega)], fun hn => ?_⟩
  obtain ⟨b, off, e, hc⟩ := h.2 (by omega)
  refine ⟨b, off, e, fun j u hu => hc j u ?_⟩
  rw [← flatI_take fV1_len, List.getElem?_take] at hu
  split at hu
  · exact hu
  · cases hu
theorem Sl.back {w : World} {g n k : Nat} {rows : List RFa} (h : Sl w (some ⟨g, 0, none⟩) n 5 (rows.flatMap fV1)) (hk : k ≤ n) : Sl w (some ⟨g, k * 5, none⟩) (n - k) 5 ((rows.drop k).flatMap fV1) := by
  have hl := h.1
  rw [flat_len fV1_len] at hl
  refine ⟨by rw [flat_len fV1_len, List.length_drop]; rw [show rows.length = n by omega], fun hn => ?_⟩
  obtain ⟨b, off, e, hc⟩ := h.2 (by omega)
  injection e with e
  injection e with e1 e2
  subst e1 e2
  refine ⟨g, k * 5, rfl, fun j u hu => ?_⟩
  rw [← flatI_drop fV1_len, List.getElem?_drop] at hu
  have := hc _ u hu
  rwa [Nat.zero_add] at this
section
variable {w w' : World} {fp fp' : Nat → Prop} {q : Nat} {room : Int} {l : List Fa}
set_option maxHeartbeats 20000000 in
set_option maxRecDepth 100000 in
theorem rready_any (Av : Option Addr) (nv cv : Nat) (v : List Int) (h : RInG w fp q room l) (hsv : SlI w Av nv v) (hnv : nv ≤ 140737488351232) (hl : l.length * 80 ≤ 140737488355328) :
    Calls Try.prog 25 #[.pointer (some ⟨q, 0, none⟩), .slice Av nv cv] w (RRdTo w fp q room l v) := by
  obtain ⟨i0, hi, hz0, hz1, hz2⟩ := info_parts Try.infoRFar
  obtain ⟨lv, rows, hp⟩ := h.ex
  obtain ⟨A0, k0, rfl, hk0, hkm⟩ := own_slice hp.2.1
  have bA : Below w.heap.size w (w.alloc (.cells #[.int .i64 0, .int .i64 0, .string ⟨#[]⟩, .slice none 0 0, .slice none 0 0] 61)) := (Below.refl _ _).alloc (Nat.le_refl _) _
  have kA := heap_alloc_new w (.cells #[.int .i64 0, .int .i64 0, .string ⟨#[]⟩, .slice none 0 0, .slice none 0 0] 61)
  have hs1 : (w.alloc (.cells #[.int .i64 0, .int .i64 0, .string ⟨#[]⟩, .slice none 0 0, .slice none 0 0] 61)).heap.size = w.heap.size + 1 := by simp
  obtain ⟨W1, hW1⟩ : ∃ W1, w.alloc (.cells #[.int .i64 0, .int .i64 0, .string ⟨#[]⟩, .slice none 0 0, .slice none 0 0] 61) = W1 := ⟨_, rfl⟩
  rw [hW1] at bA kA hs1
  have hp1 := hp.kept h.inp (Kept.below (fp := fp) bA)
  have HW1 := Lib.hid hW1
  have HB := Lib.hid bA
  have HP := Lib.hid hp
  have HH := Lib.hid h
  have hpl := h.lt _ h.inp
  have HSS := Lib.hid (fun (W' : World) (bl : Below W1.heap.size W1 W') => (bl.block w.heap.size (by omega)).trans kA)
  have HQS := Lib.hid (fun (W' : World) (bl : Below W1.heap.size W1 W') => And.intro ((bl.block q (lt_of_block hp1.1)).trans hp1.1) (And.intro (show SlI W' Av nv v from Sl.below (Sl.below hsv bA) bl) (And.intro (show Sl W' A0 l.length 5 (rows.flatMap fV1) from Sl.below (Sl.of_own hp1.2.1) bl) (fun y hy => ((hp1.2.2.2.2 y hy).vs.slv.below bl)))))
  have HRW := Lib.hid (And.intro hp.2.2.2.1 (fun y hy => (hp.2.2.2.2 y hy).right))
  have HNV := Lib.hid hnv
  have HP1 := Lib.hid hp1
  have HH1 := Lib.hid (h.below bA)
  have HRL := Lib.hid (show rows.length = l.length from by rw [← hp.2.2.2.1, List.length_map])
  have HL := Lib.hid (fun (W' : World) (bl : Below W1.heap.size W1 W') => And.intro ((h.below bA).below bl) ((Fr.of_below bA (fp := fp)).trans (Fr.of_below bl (fp := fun _ => False)) (fun _ h => h.elim)))
  clear h hp hp1 bA kA hsv hW1 hnv
  go_enter Try.func25, Try.ntmps25
  go_wp2_with fail
  rw [HW1.out]
  go_loopw [6] (fun t6 wr => ∃ k : Nat, t6 = .int .i64 (k : Int) ∧ k ≤ l.length ∧ Hid ((l.take k).any (mayB v) = false) ∧ Hid (Below W1.heap.size W1 wr)) (fun t6 _ => l.length - (intOf t6).toNat)
  case atStart => exact ⟨0, rfl, Nat.zero_le _, Lib.hid rfl, Below.refl _ _⟩
  case round =>
    obtain ⟨k, rfl, hk, HA, H5⟩ := hrel
    obtain ⟨kq, hsv, hsl, hvs⟩ := HQS.out wr H5.out
    have u1 := row_cell (j := 1) kq rfl
    by_cases hlt : k < l.length
    · obtain ⟨x, hx⟩ : ∃ x, l[k]? = some x := ⟨_, List.getElem?_eq_getElem hlt⟩
      obtain ⟨⟨x', ⟨Ax, nx, cx⟩, Ax2, nx2, cx2⟩, hy, rfl⟩ := row_get HRW.out.1 hx
      simp only at hx
      obtain ⟨gx, ox, rfl, hc⟩ := far_at hsl hy
      obtain ⟨g, cc, hgv, -, -⟩ := HP.out.2.1.form (by omega)
      injection hgv with hgv _ hgc
      injection hgv with hgv
      injection hgv with hgv1 hgv2
      subst hgv1 hgv2 hgc
      have x0 : wr.cell? ⟨gx, k * 5, none⟩ = some (.int .i64 x'.src) := by have := hc 0 (.int .i64 x'.src) (by omega) rfl; simpa using this
      have x1 : wr.cell? ⟨gx, k * 5 + 1, none⟩ = some (.int .i64 x'.seq) := by have := hc 1 (.int .i64 x'.seq) (by omega) rfl; simpa using this
      have x2 : wr.cell? ⟨gx, k * 5 + 2, none⟩ = some (.string x'.rc.key) := by have := hc 2 (.string x'.rc.key) (by omega) rfl; simpa using this
      have x3 : wr.cell? ⟨gx, k * 5 + 3, none⟩ = some (.slice Ax nx cx) := by have := hc 3 (.slice Ax nx cx) (by omega) rfl; simpa using this
      have x4 : wr.cell? ⟨gx, k * 5 + 4, none⟩ = some (.slice Ax2 nx2 cx2) := by have := hc 4 (.slice Ax2 nx2 cx2) (by omega) rfl; simpa using this
      have hm := List.mem_of_getElem? hy
      have CM := rmay_any wr v x' Av nv cv Ax nx cx (.slice Ax2 nx2 cx2) hsv HNV.out (hvs _ hm) (rightF_rec (HRW.out.2 _ hm)).2
      obtain ⟨bm, hbm⟩ : ∃ bm, mayB v x' = bm := ⟨_, rfl⟩
      rw [hbm] at CM
      have CM := Lib.hid CM
      have HBM := Lib.hid hbm
      have HX := Lib.hid hx
      have HY := Lib.hid hy
      have k0' : (0 : Int) ≤ (k : Int) := by omega
      have k1' : (k : Int) < (l.length : Int) := by omega
      clear kq hsv hsl hvs hx hy hc hm hbm
      go_wp2_with fail
      refine CM.out.mono ?_
      rintro e w6 ⟨rfl, b6⟩
      have H6 := Lib.hid (H5.out.trans (b6.mono H5.out.size))
      have y0 := cell_up x0 b6
      have y1 := cell_up x1 b6
      have y2 := cell_up x2 b6
      have y3 := cell_up x3 b6
      have y4 := cell_up x4 b6
      have u1' := cell_up u1 b6
      clear b6 CM x0 x1 x2 x3 x4 u1
      cases bm
      · have HA2 := Lib.hid (show (l.take (k + 1)).any (mayB v) = false from by rw [List.take_add_one, HX.out, List.any_append, HA.out]; simp [HBM.out])
        go_wp2
        go_roundw
        case rel => exact ⟨k + 1, by go_num, by omega, HA2, H6⟩
        case measure => simp [intOf]; omega
      · have hr : readyI l v = some k := find_hit _ _ _ _ HX.out HBM.out HA.out
        have HE := Lib.hid (fun e W (hh : ∃ fp' : Nat → Prop, e = Ending.returned (.tuple #[.agg #[.int .i64 x'.src, .int .i64 x'.seq, .string x'.rc.key, .slice Ax nx cx, .slice Ax2 nx2 cx2], .bool true]) ∧ FaD W fp (x', (Ax, nx, cx), Ax2, nx2, cx2) ∧ RInG W fp' q room (l.eraseIdx k) ∧ Fr fp w W ∧ Grow w fp fp') => show RRdTo w fp q room l v e W from by
          unfold RRdTo
          rw [hr]
          obtain ⟨fp', h1, h2, h3, h4, h5⟩ := hh
          exact ⟨(x', (Ax, nx, cx), Ax2, nx2, cx2), fp', HX.out, h1, h2, h3, h4, h5⟩)
        have hs6 := H6.out.size
        have b7 : Below w6.heap.size w6 (w6.alloc (.cells #[.int .i64 x'.src, .int .i64 x'.seq, .string x'.rc.key, .slice Ax nx cx, .slice Ax2 nx2 cx2] 61)) := (Below.refl _ _).alloc (Nat.le_refl _) _
        have k7 := heap_alloc_new w6 (.cells #[.int .i64 x'.src, .int .i64 x'.seq, .string x'.rc.key, .slice Ax nx cx, .slice Ax2 nx2 cx2] 61)
        have H7 := Lib.hid (H6.out.trans (b7.mono hs6))
        have hs7 : (w6.alloc (.cells #[.int .i64 x'.src, .int .i64 x'.seq, .string x'.rc.key, .slice Ax nx cx, .slice Ax2 nx2 cx2] 61)).heap.size = w6.heap.size + 1 := by simp
        have s7 := (HQS.out _ H7.out).2.2.1
        have HS7 := Lib.hid (s7.front (k := k) (by omega))
        have HK7 := Lib.hid k7
        have i1 : (k : Int) ≤ (k0 : Int) := by omega
        have u1a := cell_up u1' b7
        clear hr b7 k7 s7
        go_wp2_with (first | (at_builtin; refine wpList_append_sl _ rfl (.tmp 34) (.tmp 40) 64 rfl (w6.heap.size + 1) 61 i0 (.agg #[.int .i64 0, .int .i64 0, .string ⟨#[]⟩, .slice none 0 0, .slice none 0 0]) 5 80 Try.underlying64 hi hz0 hz1 hz2 rfl (by decide) (.slice none 0 0) (0) ([]) rfl (World.ownsRow_nil _ _ _ _) (some ⟨gx, 0, none⟩) (k) (k0) ((rows.take k).flatMap fV1) rfl (HS7.out) (flatF_one _) (by unfold maxLen; omega) (by omega) (by simp) ?_) | fail)
        intro v8 w8 own8 g8 _
        obtain ⟨A8, c8, rfl, -, -⟩ := own_slice own8
        have b8 : Below (w6.heap.size + 1) (w6.alloc (.cells #[.int .i64 x'.src, .int .i64 x'.seq, .string x'.rc.key, .slice Ax nx cx, .slice Ax2 nx2 cx2] 61)) w8 := (Below.refl _ _).grown g8 (by simp) (fun p hp => by simp [Value.ownBlock] at hp)
        have hs8 := b8.size
        have H8 := Lib.hid (H7.out.trans (b8.mono (by omega)))
        have HB8 := Lib.hid b8
        have HO8 := Lib.hid own8
        obtain ⟨kq8, -, s8, -⟩ := HQS.out w8 H8.out
        have u8 := row_cell (j := 1) kq8 rfl
        obtain ⟨AR, hAR, hsr⟩ : ∃ AR : Addr, (if k0 = k + 1 then some (⟨gx, 0, none⟩ : Addr) else some ⟨gx, (k + 1) * 5, none⟩) = some AR ∧ Hid (Sl w8 (some AR) (l.length - (k + 1)) 5 ((rows.drop (k + 1)).flatMap fV1)) := by
          have hb := s8.back (k := k + 1) (by omega)
          by_cases hk0' : k0 = k + 1
          · refine ⟨⟨gx, 0, none⟩, by rw [if_pos hk0'], ?_⟩
            have hz : l.length - (k + 1) = 0 := by omega
            refine ⟨hb.1, fun hn => by omega⟩
          · exact ⟨⟨gx, (k + 1) * 5, none⟩, by rw [if_neg hk0'], hb⟩
        have j0' : (0 : Int) ≤ (k : Int) + 1 := by omega
        have j1' : (k : Int) + 1 ≤ (l.length : Int) := by omega
        have j2' : (l.length : Int) ≤ (k0 : Int) := by omega
        have j3' : (k : Int) + 1 ≤ (k0 : Int) := by omega
        have j4' : ((k : Int) + 1).toNat = k + 1 := by omega
        clear kq8 s8 b8 own8 g8 HS7 y0 y1 y2 y3 y4
        go_wp2_with (first | (at_builtin; refine wpList_append_sl _ rfl (.tmp 43) (.tmp 50) 64 rfl (w6.heap.size + 1) 61 i0 (.agg #[.int .i64 0, .int .i64 0, .string ⟨#[]⟩, .slice none 0 0, .slice none 0 0]) 5 80 Try.underlying64 hi hz0 hz1 hz2 rfl (by decide) (.slice A8 k c8) (k) ((rows.take k).flatMap fV1) rfl (HO8.out) (some AR) (l.length - (k + 1)) (k0 - (k + 1)) ((rows.drop (k + 1)).flatMap fV1) rfl (hsr.out) (flatF_one _) (by unfold maxLen; omega) (by omega) (by omega) ?_) | fail)
        intro v9 w9 own9 g9 _
        obtain ⟨A9, c9, rfl, -, -⟩ := own_slice own9
        have b9 : Below (w6.heap.size + 1) w8 w9 := (Below.refl _ _).grown g9 (by omega) (fun p hp => (HO8.out.lt p hp).1)
        have hs9 := b9.size
        have h9 := H8.out.trans (b9.mono (by omega))
        have kq9 := (HQS.out w9 h9).1
        have q1 := row_cell (j := 1) kq9 rfl
        have g1 := frozen_of_row w9 q 1 _ _ kq9
        have k79 := (b9.block w6.heap.size (by omega)).trans ((HB8.out.block w6.heap.size (by omega)).trans HK7.out)
        have k09 := HSS.out w9 h9
        have hel : (l.eraseIdx k).length = k + (l.length - (k + 1)) := by rw [List.length_eraseIdx_of_lt hlt]; omega
        have own9' : w9.ownsRow 0 61 5 (.slice A9 (k + (l.length - (k + 1))) c9) (l.eraseIdx k).length ((rows.eraseIdx k).flatMap fV1) := by
          rw [hel, List.eraseIdx_eq_take_drop_succ, List.flatMap_append]
          exact own_lower own9 (Nat.zero_le _)
        obtain ⟨a1, a2, a3, a4⟩ := HH1.out.relist (l' := l.eraseIdx k) (rows' := rows.eraseIdx k) (v3 := .slice A9 (k + (l.length - (k + 1))) c9) HP1.out (Fr.of_below h9) own9' (fun p hp => .inr (by have := (own9.lt p hp).1; omega)) (by rw [← HRW.out.1]; simp [List.eraseIdx_eq_take_drop_succ, List.map_append]) (fun y hy => .inr (HP1.out.2.2.2.2 y (List.mem_of_mem_eraseIdx hy)))
        have hqs : q ≠ w6.heap.size := by omega
        have hqr : q ≠ w.heap.size := by omega
        have m7 := (Below.heap_setCell w9 ⟨q, 1, none⟩ (.slice A9 (k + (l.length - (k + 1))) c9) w6.heap.size (by simpa using hqs.symm)).trans k79
        have m0 := (Below.heap_setCell w9 ⟨q, 1, none⟩ (.slice A9 (k + (l.length - (k + 1))) c9) w.heap.size (by simpa using hqr.symm)).trans k09
        have n0 := row_cell (j := 0) m7 rfl
        have n1 := row_cell (j := 1) m7 rfl
        have n2 := row_cell (j := 2) m7 rfl
        have n3 := row_cell (j := 3) m7 rfl
        have n4 := row_cell (j := 4) m7 rfl
        have e0 := row_cell (j := 0) m0 rfl
        have e1 := row_cell (j := 1) m0 rfl
        have e2 := row_cell (j := 2) m0 rfl
        have e3 := row_cell (j := 3) m0 rfl
        have e4 := row_cell (j := 4) m0 rfl
        have f0 := frozen_of_row _ w.heap.size 0 _ _ m0
        have f1 := frozen_of_row _ w.heap.size 1 _ _ m0
        have f2 := frozen_of_row _ w.heap.size 2 _ _ m0
        have f3 := frozen_of_row _ w.heap.size 3 _ _ m0
        have f4 := frozen_of_row _ w.heap.size 4 _ _ m0
        have hfd : FaD (w9.setCell ⟨q, 1, none⟩ (.slice A9 (k + (l.length - (k + 1))) c9)) fp (x', (Ax, nx, cx), Ax2, nx2, cx2) := by
          refine ((HP1.out.2.2.2.2 _ (List.mem_of_getElem? HY.out)).keep (KeepD.of (Kept.below h9))).keep fun b cs t ht _ ho => ?_
          refine Kept.set (fp := fun b => b ≠ q) _ (fun hh => hh rfl) b _ (fun e => ?_) ho
          subst e
          have h1 : t ≠ 66 := by rcases ht with rfl | rfl | rfl <;> decide
          exact tag_neI ho kq9 h1 rfl
        have HM := Lib.hid m0
        have HQ := Lib.hid (And.intro hfd (And.intro a1 a4))
        have HLT := Lib.hid (fun b (hb : fp b) => HH.out.lt b hb)
        have HZ := Lib.hid (And.intro hs9 h9.size)
        clear b9 h9 kq9 k79 k09 hel own9' own9 g9 a1 a2 a3 a4 hqs hqr m7 m0 hfd hsr HO8 HB8 hAR u8 u1a u1' HK7
        go_wp2
        refine bodyPost_ret (res_row_tmp rfl _ _ w.heap.size _ #[.int .i64 x'.src, .int .i64 x'.seq, .string x'.rc.key, .slice Ax nx cx, .slice Ax2 nx2 cx2] _ _ rfl (set5_heap HM.out) Try.underlying61 rfl Try.infoRFarSize) rfl ?_
        have K5 := fun (F : Nat → Prop) (hF : ∀ i, F i → i ≠ w.heap.size) => (set5_fr (w := w9.setCell ⟨q, 1, none⟩ (.slice A9 (k + (l.length - (k + 1))) c9)) (g := w.heap.size) (v0 := .int .i64 x'.src) (v1 := .int .i64 x'.seq) (v2 := .string x'.rc.key) (v3 := .slice Ax nx cx) (v4 := .slice Ax2 nx2 cx2)).kept (fp' := F) (fun i hi e => hF i hi e)
        exact HE.out _ _ ⟨_, rfl, HQ.out.1.keep (KeepD.of (K5 fp fun i hi e => by have := HLT.out i hi; omega)), HQ.out.2.1.kept (K5 _ fun i hi e => by
          rcases hi with hi | hi
          · have := HLT.out i hi; omega
          · omega) set5_fr.size, (((Fr.of_below HB.out (fp := fp)).trans HQ.out.2.2 (fun i hi => .inl hi)).trans set5_fr (fun i hi => .inr (by omega))), fun i hi => hi.elim .inl (fun hh => .inr (by omega))⟩
    · obtain rfl : k = l.length := by omega
      have hr : readyI l v = none := find_none _ _ (by have := HA.out; rwa [List.take_length] at this)
      have HE := Lib.hid (fun e W (hh : e = Ending.returned (.tuple #[.agg #[.int .i64 0, .int .i64 0, .string ⟨#[]⟩, .slice none 0 0, .slice none 0 0], .bool false]) ∧ RInG W fp q room l ∧ Fr fp w W) => show RRdTo w fp q room l v e W from by unfold RRdTo; rw [hr]; exact hh)
      have kf := HSS.out wr H5.out
      have e0 := row_cell (j := 0) kf rfl
      have e1 := row_cell (j := 1) kf rfl
      have e2 := row_cell (j := 2) kf rfl
      have e3 := row_cell (j := 3) kf rfl
      have e4 := row_cell (j := 4) kf rfl
      have f0 := frozen_of_row wr w.heap.size 0 _ _ kf
      have f1 := frozen_of_row wr w.heap.size 1 _ _ kf
      have f2 := frozen_of_row wr w.heap.size 2 _ _ kf
      have f3 := frozen_of_row wr w.heap.size 3 _ _ kf
      have f4 := frozen_of_row wr w.heap.size 4 _ _ kf
      have HK := Lib.hid kf
      have hlt2 := fun b (hb : fp b) => HH.out.lt b hb
      have HLT := Lib.hid hlt2
      clear kq hsv hsl hvs hr kf hlt2
      go_wp2
      refine bodyPost_ret (res_row_tmp rfl _ _ w.heap.size _ #[.int .i64 0, .int .i64 0, .string ⟨#[]⟩, .slice none 0 0, .slice none 0 0] _ _ rfl (set5_heap HK.out) Try.underlying61 rfl Try.infoRFarSize) rfl ?_
      exact HE.out _ _ ⟨rfl, (HL.out _ H5.out).1.kept (set5_fr.kept fun i hi e => by have := HLT.out i hi; omega) set5_fr.size, (HL.out _ H5.out).2.trans set5_fr (fun i hi => .inr (by omega))⟩
end
end Go.Proofs.Ytilagblpamhmkaa
