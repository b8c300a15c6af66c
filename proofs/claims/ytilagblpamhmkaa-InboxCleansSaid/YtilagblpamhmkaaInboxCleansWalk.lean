/-
  firthlaw18.InboxCleans
-/
import Derived.Test.YtilagblpamhmkaaInboxRows
import Derived.Test.YtilagblpamhmkaaInboxRoomWalk
import Derived.Test.YtilagblpamhmkaaMB
import Derived.Test.YtilagblpamhmkaaMV
namespace Go.Proofs.Ytilagblpamhmkaa
open Go.RowKit
set_option linter.unusedVariables false

theorem two_recs (w : World) (a b : Array Value) : ((w.alloc (.cells a 32)).alloc (.cells b 32)).drew.heap[w.heap.size]? = some (.cells a 32 (0, 0)) ∧ ((w.alloc (.cells a 32)).alloc (.cells b 32)).drew.heap[w.heap.size + 1]? = some (.cells b 32 (0, 0)) ∧ Below w.heap.size w ((w.alloc (.cells a 32)).alloc (.cells b 32)).drew := by
  refine ⟨(Below.heap_alloc _ _ _ (by simp)).trans (heap_alloc_new w _), ?_, (((Below.refl _ _).alloc (Nat.le_refl _) _).alloc (by simp) _).drew⟩
  have h := heap_alloc_new (w.alloc (.cells a 32)) (.cells b 32)
  rwa [show (w.alloc (.cells a 32)).heap.size = w.heap.size + 1 by simp] at h
theorem two_recs' (w : World) (a b : Array Value) : ((w.alloc (.cells b 32)).alloc (.cells a 32)).drew.heap[w.heap.size + 1]? = some (.cells a 32 (0, 0)) ∧ ((w.alloc (.cells b 32)).alloc (.cells a 32)).drew.heap[w.heap.size]? = some (.cells b 32 (0, 0)) ∧ Below w.heap.size w ((w.alloc (.cells b 32)).alloc (.cells a 32)).drew := by
  obtain ⟨h1, h2, h3⟩ := two_recs w b a
  exact ⟨h2, h1, h3⟩
set_option maxHeartbeats 8000000 in
set_option maxRecDepth 100000 in
theorem inboxCleans_walk (a0 : Option Addr) (len0 cap0 : Nat) (x0 : List farSh.T) (a1 : Option Addr) (len1 cap1 : Nat) (l1 : List Int) (W : World)
    (t0 : Rd W (.sl 80 farSh) [.slice a0 len0 cap0] x0) (s1 : SlI W a1 len1 l1) (f1 : ∀ x ∈ l1, (Lit.int .i64 x).wf = true) (b1 : len1 ≤ cap1) (z1 : cap1 * 8 ≤ 140737488351232) :
    Calls Try.prog 8 #[.slice a0 len0 cap0, .slice a1 len1 cap1] W fun e w' => e = .returned (.bool true) ∧ Below W.heap.size W w' := by
  obtain ⟨hl0, hl80, hfar⟩ := fars_open t0
  have hn1 : len1 ≤ 140737488351232 := by omega
  have HT := Lib.hid (fun (w' : World) (b : Below W.heap.size W w') => And.intro (fars_open (t0.below b)).2.2 (show SlI w' a1 len1 l1 from Sl.below s1 b))
  have HVB := Lib.hid (fun (b off : Nat) (hn : 0 < len1 * 1) (e : a1 = some ⟨b, off, none⟩) => Sl.blk_lt s1 hn e)
  have HX := Lib.hid hl0
  obtain ⟨xs, hxs⟩ : ∃ xs, x0.map faOf = xs := ⟨_, rfl⟩
  rw [hxs] at HT HX
  clear t0 s1 f1 hl0 hfar hxs
  have C0 := Lib.hid (awake_any W)
  go_enter Try.func8, Try.ntmps8
  go_wp2_with fail
  refine C0.out.mono ?_
  rintro e w1 ⟨rfl, bw1⟩
  have C2 := Lib.hid (newOi (len0 : Int) (by omega) W w1 W.heap.size bw1 (Nat.le_refl _))
  obtain ⟨p, hp⟩ : ∃ p, w1.heap.size = p := ⟨_, rfl⟩
  rw [hp] at C2
  clear bw1 C0 hp
  go_wp2_with fail
  refine C2.out.mono ?_
  rintro e w3 ⟨rfl, h3⟩
  have h4 := h3.lit (Nat.le_refl _) [0] 1 rfl
  obtain ⟨q, hq⟩ : ∃ q, w3.heap.size = q := ⟨_, rfl⟩
  rw [hq] at h4
  have H4 := Lib.hid h4
  have HQ := Lib.hid hq
  clear h3 h4 C2 hq
  go_wp2_with fail
  rw [HQ.out]
  go_loopw [7] (fun t7 wr => ∃ (i : Nat) (l : List Fa), t7 = .int .i64 (i : Int) ∧ i ≤ len0 ∧ l.length ≤ i ∧ Hid (OSt W W.heap.size p len0 wr l [0] (some ⟨q, 0, none⟩) 1)) (fun t7 _ => len0 - (intOf t7).toNat)
  case atStart => exact ⟨0, [], rfl, Nat.zero_le _, Nat.le_refl _, H4⟩
  case round =>
    clear H4
    obtain ⟨i, l, rfl, hi, hli, HO⟩ := hrel
    by_cases hlt : i < len0
    · obtain ⟨g, off, f, A1, n1, c1, A2, n2, c2, rfl, hxf, hc, hfv, -⟩ := (HT.out _ HO.out.below_).1 i hlt
      have y0 : wr.cell? ⟨g, off + i * 5, none⟩ = some (.int .i64 f.src) := hc 0 _ (by omega) rfl
      have y1 := hc 1 _ (by omega) rfl
      have y2 := hc 2 _ (by omega) rfl
      have y3 := hc 3 _ (by omega) rfl
      have y4 := hc 4 _ (by omega) rfl
      have i1 : (0 : Int) ≤ (i : Int) := by omega
      have i2 : (i : Int) < (len0 : Int) := by omega
      have CT := Lib.hid (takeO f A1 n1 c1 A2 n2 c2 1 HO.out hfv (by omega) (by omega))
      have hll := takeI_len len0 l f [0]
      obtain ⟨l', hl'⟩ : ∃ l', takeI len0 l f [0] = l' := ⟨_, rfl⟩
      rw [hl'] at CT hll
      clear hxf hc hfv hl'
      go_wp2_with fail
      refine CT.out.mono ?_
      rintro e w4 ⟨rfl, h4⟩
      have H4 := Lib.hid h4
      have hlen' : l'.length ≤ i + 1 := by omega
      clear h4 CT y0 y1 y2 y3 y4 HO hll hli
      go_wp2
      go_roundw
      case rel => exact ⟨i + 1, l', by go_num, by omega, hlen', H4⟩
      case measure => simp [intOf]; omega
    · obtain rfl : i = len0 := by omega
      obtain ⟨K, w0, h1, h2, h3, h4, h5, h6⟩ := HO.out
      have hb0 := HO.out.below_
      have CW := Lib.hid (waitsP h1 (by omega))
      have HK := Lib.hid h2
      have HI := Lib.hid h1
      have HB := Lib.hid hb0
      clear h1 h2 h3 h4 h5 h6 hb0 HO
      go_wp2_with fail
      refine CW.out.mono ?_
      rintro e w4 ⟨A4, n4, c4, rows4, rfl, hw⟩
      obtain ⟨hn4, hrl4⟩ := hw.len (Nat.le_refl _)
      subst hn4
      have hm4 := hw.map
      rw [List.take_length] at hm4
      have h4 := HI.out.over hw.below (K2 := fun b => K b ∨ wr.heap.size ≤ b ∧ b < w4.heap.size) (fun b hb => hb)
      have HB4 := Lib.hid (HB.out.trans (hw.below.mono HB.out.size))
      obtain ⟨A4', k4', e4, -⟩ := own_slice hw.own
      injection e4 with e4a _ e4c
      subst e4a e4c
      have HW4 := Lib.hid hw
      have HM4 := Lib.hid hm4
      have CC := Lib.hid (cleanP a1 len1 cap1 l1 h4 (HT.out _ HB4.out).2 hn1 (fun b off hn e => .inl (HK.out b (HVB.out b off hn e))) (by omega))
      clear hw hm4 CW HI h4
      go_wp2_with fail
      refine CC.out.mono ?_
      rintro e w5 ⟨A5, n5, c5, rows5, rfl, hm5, fr5, h5⟩
      have hkk : Kept (fun b => wr.heap.size ≤ b ∧ b < w4.heap.size) w4 w5 := h5.fr.kept fun b hb hh => hh (.inr hb)
      have fr4 : FRow w5 A4 l.length rows4 := FRow.of (fp := fun b => wr.heap.size ≤ b ∧ b < w4.heap.size) (Sl.of_own (own_keep HW4.out.own (fun g hg => HW4.out.own.lt g hg) hkk)) (fun y hy => ((HW4.out.fd y hy).mono (fun b h1 h2 => ⟨h2, h1⟩)).keep (KeepD.of hkk))
      have HB5 := Lib.hid (h5.outer HB4.out (fun b hb => .inl (HK.out b hb)) (by have := HB4.out.size; exact this))
      have CW := Lib.hid (waitsP h5 (by have := List.length_filter_le (fun f => !covB l1 f) l; omega))
      have H5 := Lib.hid h5
      have F4 := Lib.hid fr4
      have F5 := Lib.hid fr5
      clear hkk fr4 fr5 h5 CC HW4
      go_wp2_with fail
      refine CW.out.mono ?_
      rintro e w6 ⟨A6, n6, c6, rows6, rfl, hw⟩
      obtain ⟨hn6, hrl6⟩ := hw.len (Nat.le_refl _)
      have hm6 := hw.map
      rw [List.take_length] at hm6
      have H6 := Lib.hid (H5.out.below hw.below)
      have HB6 := Lib.hid (HB5.out.trans (hw.below.mono HB5.out.size))
      have HF4 := Lib.hid (F4.out.below hw.below)
      have HF5 := Lib.hid (F5.out.below hw.below)
      have HF6 := Lib.hid (FRow.of (Sl.of_own hw.own) hw.fd)
      have HM5 := Lib.hid hm5
      have HM6 := Lib.hid hm6
      have hn5 := HF5.out.len
      have hm5l := congrArg List.length hm5
      have hm6l := congrArg List.length hm6
      rw [List.length_map] at hm5l hm6l
      have HN := Lib.hid (And.intro (show n5 = (l.filter (covB l1)).length by omega) (show n6 = (l.filter fun f => !covB l1 f).length from hn6))
      clear hw hm6 hm5 hn6 hn5 hm5l hm6l hrl6 H5 F4 F5 CW HB5
      go_wp2_with fail
      go_loopw [11, 12, 13] (fun t11 t12 t13 wq => ∃ (i g k : Nat), t11 = .int .i64 (g : Int) ∧ t12 = .int .i64 (k : Int) ∧ t13 = .int .i64 (i : Int) ∧ i ≤ l.length ∧ Hid (g = ((l.take i).filter (covB l1)).length ∧ k = ((l.take i).filter fun f => !covB l1 f).length) ∧ Hid (Below w6.heap.size w6 wq)) (fun _ _ t13 _ => l.length - (intOf t13).toNat)
      case atStart => exact ⟨0, 0, 0, rfl, rfl, rfl, Nat.zero_le _, ⟨rfl, rfl⟩, Below.refl _ _⟩
      case round =>
        obtain ⟨j, g, k, rfl, rfl, rfl, hj, HGK, HBQ⟩ := hrel
        have hgb : g ≤ j := by rw [HGK.out.1]; have h1 := List.length_filter_le (covB l1) (l.take j); rw [List.length_take] at h1; omega
        have hkb : k ≤ j := by rw [HGK.out.2]; have h1 := List.length_filter_le (fun f => !covB l1 f) (l.take j); rw [List.length_take] at h1; omega
        by_cases hlt2 : j < l.length
        · obtain ⟨f, hf⟩ : ∃ f, l[j]? = some f := ⟨_, List.getElem?_eq_getElem hlt2⟩
          obtain ⟨⟨f', ⟨Ay, ny, cy⟩, Ay2, ny2, cy2⟩, hy, rfl⟩ := row_get HM4.out hf
          simp only at hf
          have fr4 := HF4.out.below HBQ.out
          obtain ⟨gy, oy, rfl, y0, y1, y2, y3, y4⟩ := fr4.at_ hy
          have hrc := fr4.rc _ (List.mem_of_getElem? hy)
          have hrg := fr4.right _ (List.mem_of_getElem? hy)
          simp only at y0 y1 y2 y3 y4 hrc hrg
          obtain ⟨bv, ov, Ap, np, cp, rfl, rfl, e0, e1, -, hvr⟩ := ver_at hrc.sl (rightF_rec hrg).2
          have hwf := bounds_i64 hvr.wf.1
          have CV := refCovers_any a1 len1 cap1 l1 f'.ver.s f'.ver.n wr (HT.out _ (HB6.out.trans (HBQ.out.mono HB6.out.size))).2 hn1 hwf.1 hwf.2
          obtain ⟨bb, hbb⟩ : ∃ bb, covB l1 f' = bb := ⟨_, rfl⟩
          have hbb2 : coversB l1 f'.ver.s f'.ver.n = bb := hbb
          rw [hbb2] at CV
          have CV := Lib.hid CV
          have HBB := Lib.hid hbb
          have HF := Lib.hid hf
          have HY := Lib.hid hy
          have j0 : (0 : Int) ≤ (j : Int) := by omega
          have j1 : (j : Int) < (l.length : Int) := by omega
          have i5 : (0 : Int) < ((1 : Nat) : Int) := by decide
          clear hf hy fr4 hrc hrg hvr hwf hbb hbb2
          go_wp2_with fail
          refine CV.out.mono ?_
          rintro e wc ⟨rfl, b8⟩
          have HBX := Lib.hid (HBQ.out.trans (b8.mono HBQ.out.size))
          clear b8 CV y0 y1 y2 y3 y4 e0 e1
          cases bb
          · have hg1 := filter_at (fun f => !covB l1 f) HF.out (by rw [HBB.out]; rfl)
            rw [← HGK.out.2] at hg1
            obtain ⟨⟨f2, ⟨Ax, nx, cx⟩, Ax2, nx2, cx2⟩, hx, rfl⟩ := row_get HM6.out hg1
            obtain ⟨f, rfl⟩ : ∃ f, f = f2 := ⟨_, rfl⟩
            have fr6 := HF6.out.below HBX.out
            have fr4 := HF4.out.below HBX.out
            have hkn : k < n6 := by rw [← fr6.len]; exact (List.getElem?_eq_some_iff.1 hx).1
            obtain ⟨gx, ox, rfl, x0, x1, x2, x3, x4⟩ := fr6.at_ hx
            obtain ⟨gy2, oy2, ey, z0, z1, z2, z3, z4⟩ := fr4.at_ HY.out
            injection ey with ey
            injection ey with ey1 ey2
            subst ey1 ey2
            have HRX := Lib.hid (fr6.rc _ (List.mem_of_getElem? hx))
            have HRY := Lib.hid (fr4.rc _ (List.mem_of_getElem? HY.out))
            have HSS := Lib.hid (fun (W' : World) (bl : Below wc.heap.size wc W') => And.intro (cell_up x1 bl) (And.intro (cell_up x2 bl) (And.intro (cell_up x3 bl) (And.intro (cell_up z1 bl) (And.intro (cell_up z2 bl) (And.intro (cell_up z3 bl) bl))))))
            have HST := Lib.hid (show g = ((l.take (j + 1)).filter (covB l1)).length ∧ k + 1 = ((l.take (j + 1)).filter fun f => !covB l1 f).length from by
              rw [filter_step _ HF.out, filter_step _ HF.out, if_neg (by rw [HBB.out]; simp), if_pos (by rw [HBB.out]; rfl), ← HGK.out.1, ← HGK.out.2]
              exact ⟨rfl, rfl⟩)
            have q1 : decide (n6 ≤ k) = false := decide_eq_false (by omega)
            have k0 : (0 : Int) ≤ (k : Int) := by omega
            have k1 : (k : Int) < (n6 : Int) := by omega
            clear hg1 hx fr6 fr4 x0 x1 x2 x3 x4 z0 z1 z2 z3 z4
            go_wp2_with fail
            refine wp_region_noPanic ?_
            refine wp_region_held_drew (S := (fun w' => w'.cell? ⟨gx, ox + k * 5 + 1, none⟩ = some (.int .i64 f.seq) ∧ w'.cell? ⟨gx, ox + k * 5 + 2, none⟩ = some (.string f.rc.key) ∧ w'.cell? ⟨gx, ox + k * 5 + 3, none⟩ = some (.slice Ax nx cx) ∧ w'.cell? ⟨gy, oy + j * 5 + 1, none⟩ = some (.int .i64 f.seq) ∧ w'.cell? ⟨gy, oy + j * 5 + 2, none⟩ = some (.string f.rc.key) ∧ w'.cell? ⟨gy, oy + j * 5 + 3, none⟩ = some (.slice (some ⟨bv, ov, none⟩) 1 cy) ∧ Below wc.heap.size wc w')) (by kernel_rfl) ?_ (fun hHeld => ?_)
            · exact HSS.out _ (Below.refl _ _).drew
            first
              | (refine wpAnyH_take (i := 0) (oi := _) (v := undef) (dropAt rfl) (by kernel_rfl) (by kernel_rfl) (by kernel_rfl) (fun _ _ _ h => h) (Or.inr ⟨by rfl, rfl⟩) (by assumption) ?_)
              | (refine wpAnyH_take (i := 0) (oi := _) (v := ?_) (dropAt rfl) (by kernel_rfl) (by kernel_rfl) (by kernel_rfl) (fun _ _ _ h => h) (Or.inl ⟨by rfl, ?_⟩) (by assumption) ?_; rotate_left; (focus (intro w2 hSw; (try dsimp only at hSw); go_simp; try with_reducible rfl)))
              | fail
            try simp only [Act.put, List.setIfInBounds_toArray, List.set_cons_zero, List.set_cons_succ]
            first
              | (refine wpAnyH_take (i := 1) (oi := _) (v := undef) (dropAt rfl) (by kernel_rfl) (by kernel_rfl) (by kernel_rfl) (fun _ _ _ h => h) (Or.inr ⟨by rfl, rfl⟩) (by assumption) ?_)
              | (refine wpAnyH_take (i := 1) (oi := _) (v := ?_) (dropAt rfl) (by kernel_rfl) (by kernel_rfl) (by kernel_rfl) (fun _ _ _ h => h) (Or.inl ⟨by rfl, ?_⟩) (by assumption) ?_; rotate_left; (focus (intro w2 hSw; (try dsimp only at hSw); go_simp; try with_reducible rfl)))
              | fail
            try simp only [Act.put, List.setIfInBounds_toArray, List.set_cons_zero, List.set_cons_succ]
            first
              | (refine wpAnyH_take (i := 2) (oi := _) (v := undef) (dropAt rfl) (by kernel_rfl) (by kernel_rfl) (by kernel_rfl) (fun _ _ _ h => h) (Or.inr ⟨by rfl, rfl⟩) (by assumption) ?_)
              | (refine wpAnyH_take (i := 2) (oi := _) (v := ?_) (dropAt rfl) (by kernel_rfl) (by kernel_rfl) (by kernel_rfl) (fun _ _ _ h => h) (Or.inl ⟨by rfl, ?_⟩) (by assumption) ?_; rotate_left; (focus (intro w2 hSw; (try dsimp only at hSw); go_simp; try with_reducible rfl)))
              | fail
            try simp only [Act.put, List.setIfInBounds_toArray, List.set_cons_zero, List.set_cons_succ]
            first
              | (refine wpAnyH_take (i := 3) (oi := _) (v := undef) (dropAt rfl) (by kernel_rfl) (by kernel_rfl) (by kernel_rfl) (fun _ _ _ h => h) (Or.inr ⟨by rfl, rfl⟩) (by assumption) ?_)
              | (refine wpAnyH_take (i := 3) (oi := _) (v := ?_) (dropAt rfl) (by kernel_rfl) (by kernel_rfl) (by kernel_rfl) (fun _ _ _ h => h) (Or.inl ⟨by rfl, ?_⟩) (by assumption) ?_; rotate_left; (focus (intro w2 hSw; (try dsimp only at hSw); go_simp; try with_reducible rfl)))
              | fail
            try simp only [Act.put, List.setIfInBounds_toArray, List.set_cons_zero, List.set_cons_succ]
            first
              | (refine wpAnyH_take (i := 4) (oi := _) (v := undef) (dropAt rfl) (by kernel_rfl) (by kernel_rfl) (by kernel_rfl) (fun _ _ _ h => h) (Or.inr ⟨by rfl, rfl⟩) (by assumption) ?_)
              | (refine wpAnyH_take (i := 4) (oi := _) (v := ?_) (dropAt rfl) (by kernel_rfl) (by kernel_rfl) (by kernel_rfl) (fun _ _ _ h => h) (Or.inl ⟨by rfl, ?_⟩) (by assumption) ?_; rotate_left; (focus (intro w2 hSw; (try dsimp only at hSw); go_simp; try with_reducible rfl)))
              | fail
            try simp only [Act.put, List.setIfInBounds_toArray, List.set_cons_zero, List.set_cons_succ]
            first
              | (refine wpAnyH_take (i := 5) (oi := _) (v := undef) (dropAt rfl) (by kernel_rfl) (by kernel_rfl) (by kernel_rfl) (fun _ _ _ h => h) (Or.inr ⟨by rfl, rfl⟩) (by assumption) ?_)
              | (refine wpAnyH_take (i := 5) (oi := _) (v := ?_) (dropAt rfl) (by kernel_rfl) (by kernel_rfl) (by kernel_rfl) (fun _ _ _ h => h) (Or.inl ⟨by rfl, ?_⟩) (by assumption) ?_; rotate_left; (focus (intro w2 hSw; (try dsimp only at hSw); go_simp; try with_reducible rfl)))
              | fail
            try simp only [Act.put, List.setIfInBounds_toArray, List.set_cons_zero, List.set_cons_succ]
            first
              | (refine wpAnyH_take (i := 6) (oi := _) (v := undef) (dropAt rfl) (by kernel_rfl) (by kernel_rfl) (by kernel_rfl) (fun _ _ _ h => h) (Or.inr ⟨by rfl, rfl⟩) (by assumption) ?_)
              | (refine wpAnyH_take (i := 6) (oi := _) (v := ?_) (dropAt rfl) (by kernel_rfl) (by kernel_rfl) (by kernel_rfl) (fun _ _ _ h => h) (Or.inl ⟨by rfl, ?_⟩) (by assumption) ?_; rotate_left; (focus (intro w2 hSw; (try dsimp only at hSw); go_simp; try with_reducible rfl)))
              | fail
            try simp only [Act.put, List.setIfInBounds_toArray, List.set_cons_zero, List.set_cons_succ]
            first
              | (refine wpAnyH_take (i := 7) (oi := _) (v := undef) (dropAt rfl) (by kernel_rfl) (by kernel_rfl) (by kernel_rfl) (fun _ _ _ h => h) (Or.inr ⟨by rfl, rfl⟩) (by assumption) ?_)
              | (refine wpAnyH_take (i := 7) (oi := _) (v := ?_) (dropAt rfl) (by kernel_rfl) (by kernel_rfl) (by kernel_rfl) (fun _ _ _ h => h) (Or.inl ⟨by rfl, ?_⟩) (by assumption) ?_; rotate_left; (focus (intro w2 hSw; (try dsimp only at hSw); go_simp; try with_reducible rfl)))
              | fail
            try simp only [Act.put, List.setIfInBounds_toArray, List.set_cons_zero, List.set_cons_succ]
            first
              | (refine wpAnyH_take (i := 8) (oi := _) (v := undef) (dropAt rfl) (by kernel_rfl) (by kernel_rfl) (by kernel_rfl) (fun _ _ _ h => h) (Or.inr ⟨by rfl, rfl⟩) (by assumption) ?_)
              | (refine wpAnyH_take (i := 8) (oi := _) (v := ?_) (dropAt rfl) (by kernel_rfl) (by kernel_rfl) (by kernel_rfl) (fun _ _ _ h => h) (Or.inl ⟨by rfl, ?_⟩) (by assumption) ?_; rotate_left; (focus (intro w2 hSw; (try dsimp only at hSw); go_simp; try with_reducible rfl)))
              | fail
            try simp only [Act.put, List.setIfInBounds_toArray, List.set_cons_zero, List.set_cons_succ]
            first
              | (refine wpAnyH_take (i := 9) (oi := _) (v := undef) (dropAt rfl) (by kernel_rfl) (by kernel_rfl) (by kernel_rfl) (fun _ _ _ h => h) (Or.inr ⟨by rfl, rfl⟩) (by assumption) ?_)
              | (refine wpAnyH_take (i := 9) (oi := _) (v := ?_) (dropAt rfl) (by kernel_rfl) (by kernel_rfl) (by kernel_rfl) (fun _ _ _ h => h) (Or.inl ⟨by rfl, ?_⟩) (by assumption) ?_; rotate_left; (focus (intro w2 hSw; (try dsimp only at hSw); go_simp; try with_reducible rfl)))
              | fail
            try simp only [Act.put, List.setIfInBounds_toArray, List.set_cons_zero, List.set_cons_succ]
            first
              | (refine wpAnyH_take (i := 10) (oi := _) (v := undef) (dropAt rfl) (by kernel_rfl) (by kernel_rfl) (by kernel_rfl) (fun _ _ _ h => h) (Or.inr ⟨by rfl, rfl⟩) (by assumption) ?_)
              | (refine wpAnyH_take (i := 10) (oi := _) (v := ?_) (dropAt rfl) (by kernel_rfl) (by kernel_rfl) (by kernel_rfl) (fun _ _ _ h => h) (Or.inl ⟨by rfl, ?_⟩) (by assumption) ?_; rotate_left; (focus (intro w2 hSw; (try dsimp only at hSw); go_simp; try with_reducible rfl)))
              | fail
            try simp only [Act.put, List.setIfInBounds_toArray, List.set_cons_zero, List.set_cons_succ]
            first
              | (refine wpAnyH_take (i := 11) (oi := _) (v := undef) (dropAt rfl) (by kernel_rfl) (by kernel_rfl) (by kernel_rfl) (fun _ _ _ h => h) (Or.inr ⟨by rfl, rfl⟩) (by assumption) ?_)
              | (refine wpAnyH_take (i := 11) (oi := _) (v := ?_) (dropAt rfl) (by kernel_rfl) (by kernel_rfl) (by kernel_rfl) (fun _ _ _ h => h) (Or.inl ⟨by rfl, ?_⟩) (by assumption) ?_; rotate_left; (focus (intro w2 hSw; (try dsimp only at hSw); go_simp; try with_reducible rfl)))
              | fail
            try simp only [Act.put, List.setIfInBounds_toArray, List.set_cons_zero, List.set_cons_succ]
            first
              | (refine wpAnyH_take (i := 12) (oi := _) (v := undef) (dropAt rfl) (by kernel_rfl) (by kernel_rfl) (by kernel_rfl) (fun _ _ _ h => h) (Or.inr ⟨by rfl, rfl⟩) (by assumption) ?_)
              | (refine wpAnyH_take (i := 12) (oi := _) (v := ?_) (dropAt rfl) (by kernel_rfl) (by kernel_rfl) (by kernel_rfl) (fun _ _ _ h => h) (Or.inl ⟨by rfl, ?_⟩) (by assumption) ?_; rotate_left; (focus (intro w2 hSw; (try dsimp only at hSw); go_simp; try with_reducible rfl)))
              | fail
            try simp only [Act.put, List.setIfInBounds_toArray, List.set_cons_zero, List.set_cons_succ]
            first
              | (refine wpAnyH_take (i := 13) (oi := _) (v := undef) (dropAt rfl) (by kernel_rfl) (by kernel_rfl) (by kernel_rfl) (fun _ _ _ h => h) (Or.inr ⟨by rfl, rfl⟩) (by assumption) ?_)
              | (refine wpAnyH_take (i := 13) (oi := _) (v := ?_) (dropAt rfl) (by kernel_rfl) (by kernel_rfl) (by kernel_rfl) (fun _ _ _ h => h) (Or.inl ⟨by rfl, ?_⟩) (by assumption) ?_; rotate_left; (focus (intro w2 hSw; (try dsimp only at hSw); go_simp; try with_reducible rfl)))
              | fail
            try simp only [Act.put, List.setIfInBounds_toArray, List.set_cons_zero, List.set_cons_succ]
            first
              | (refine wpAnyH_take (i := 14) (oi := _) (v := undef) (dropAt rfl) (by kernel_rfl) (by kernel_rfl) (by kernel_rfl) (fun _ _ _ h => h) (Or.inr ⟨by rfl, rfl⟩) (by assumption) ?_)
              | (refine wpAnyH_take (i := 14) (oi := _) (v := ?_) (dropAt rfl) (by kernel_rfl) (by kernel_rfl) (by kernel_rfl) (fun _ _ _ h => h) (Or.inl ⟨by rfl, ?_⟩) (by assumption) ?_; rotate_left; (focus (intro w2 hSw; (try dsimp only at hSw); go_simp; try with_reducible rfl)))
              | fail
            try simp only [Act.put, List.setIfInBounds_toArray, List.set_cons_zero, List.set_cons_succ]
            first
              | (refine wpAnyH_take (i := 15) (oi := _) (v := undef) (dropAt rfl) (by kernel_rfl) (by kernel_rfl) (by kernel_rfl) (fun _ _ _ h => h) (Or.inr ⟨by rfl, rfl⟩) (by assumption) ?_)
              | (refine wpAnyH_take (i := 15) (oi := _) (v := ?_) (dropAt rfl) (by kernel_rfl) (by kernel_rfl) (by kernel_rfl) (fun _ _ _ h => h) (Or.inl ⟨by rfl, ?_⟩) (by assumption) ?_; rotate_left; (focus (intro w2 hSw; (try dsimp only at hSw); go_simp; try with_reducible rfl)))
              | fail
            try simp only [Act.put, List.setIfInBounds_toArray, List.set_cons_zero, List.set_cons_succ]
            first
              | (refine wpAnyH_take (i := 16) (oi := _) (v := undef) (dropAt rfl) (by kernel_rfl) (by kernel_rfl) (by kernel_rfl) (fun _ _ _ h => h) (Or.inr ⟨by rfl, rfl⟩) (by assumption) ?_)
              | (refine wpAnyH_take (i := 16) (oi := _) (v := ?_) (dropAt rfl) (by kernel_rfl) (by kernel_rfl) (by kernel_rfl) (fun _ _ _ h => h) (Or.inl ⟨by rfl, ?_⟩) (by assumption) ?_; rotate_left; (focus (intro w2 hSw; (try dsimp only at hSw); go_simp; try with_reducible rfl)))
              | fail
            try simp only [Act.put, List.setIfInBounds_toArray, List.set_cons_zero, List.set_cons_succ]
            first
              | (refine wpAnyH_take (i := 17) (oi := _) (v := undef) (dropAt rfl) (by kernel_rfl) (by kernel_rfl) (by kernel_rfl) (fun _ _ _ h => h) (Or.inr ⟨by rfl, rfl⟩) (by assumption) ?_)
              | (refine wpAnyH_take (i := 17) (oi := _) (v := ?_) (dropAt rfl) (by kernel_rfl) (by kernel_rfl) (by kernel_rfl) (fun _ _ _ h => h) (Or.inl ⟨by rfl, ?_⟩) (by assumption) ?_; rotate_left; (focus (intro w2 hSw; (try dsimp only at hSw); go_simp; try with_reducible rfl)))
              | fail
            try simp only [Act.put, List.setIfInBounds_toArray, List.set_cons_zero, List.set_cons_succ]
            first
              | (refine wpAnyH_take (i := 18) (oi := _) (v := undef) (dropAt rfl) (by kernel_rfl) (by kernel_rfl) (by kernel_rfl) (fun _ _ _ h => h) (Or.inr ⟨by rfl, rfl⟩) (by assumption) ?_)
              | (refine wpAnyH_take (i := 18) (oi := _) (v := ?_) (dropAt rfl) (by kernel_rfl) (by kernel_rfl) (by kernel_rfl) (fun _ _ _ h => h) (Or.inl ⟨by rfl, ?_⟩) (by assumption) ?_; rotate_left; (focus (intro w2 hSw; (try dsimp only at hSw); go_simp; try with_reducible rfl)))
              | fail
            try simp only [Act.put, List.setIfInBounds_toArray, List.set_cons_zero, List.set_cons_succ]
            first
              | (refine wpAnyH_take (i := 19) (oi := _) (v := undef) (dropAt rfl) (by kernel_rfl) (by kernel_rfl) (by kernel_rfl) (fun _ _ _ h => h) (Or.inr ⟨by rfl, rfl⟩) (by assumption) ?_)
              | (refine wpAnyH_take (i := 19) (oi := _) (v := ?_) (dropAt rfl) (by kernel_rfl) (by kernel_rfl) (by kernel_rfl) (fun _ _ _ h => h) (Or.inl ⟨by rfl, ?_⟩) (by assumption) ?_; rotate_left; (focus (intro w2 hSw; (try dsimp only at hSw); go_simp; try with_reducible rfl)))
              | fail
            try simp only [Act.put, List.setIfInBounds_toArray, List.set_cons_zero, List.set_cons_succ]
            first
              | (refine wpAnyH_take (i := 20) (oi := _) (v := undef) (dropAt rfl) (by kernel_rfl) (by kernel_rfl) (by kernel_rfl) (fun _ _ _ h => h) (Or.inr ⟨by rfl, rfl⟩) (by assumption) ?_)
              | (refine wpAnyH_take (i := 20) (oi := _) (v := ?_) (dropAt rfl) (by kernel_rfl) (by kernel_rfl) (by kernel_rfl) (fun _ _ _ h => h) (Or.inl ⟨by rfl, ?_⟩) (by assumption) ?_; rotate_left; (focus (intro w2 hSw; (try dsimp only at hSw); go_simp; try with_reducible rfl)))
              | fail
            try simp only [Act.put, List.setIfInBounds_toArray, List.set_cons_zero, List.set_cons_succ]
            first
              | (refine wpAnyH_take (i := 21) (oi := _) (v := undef) (dropAt rfl) (by kernel_rfl) (by kernel_rfl) (by kernel_rfl) (fun _ _ _ h => h) (Or.inr ⟨by rfl, rfl⟩) (by assumption) ?_)
              | (refine wpAnyH_take (i := 21) (oi := _) (v := ?_) (dropAt rfl) (by kernel_rfl) (by kernel_rfl) (by kernel_rfl) (fun _ _ _ h => h) (Or.inl ⟨by rfl, ?_⟩) (by assumption) ?_; rotate_left; (focus (intro w2 hSw; (try dsimp only at hSw); go_simp; try with_reducible rfl)))
              | fail
            try simp only [Act.put, List.setIfInBounds_toArray, List.set_cons_zero, List.set_cons_succ]
            first
              | (refine wpAnyH_take (i := 22) (oi := _) (v := undef) (dropAt rfl) (by kernel_rfl) (by kernel_rfl) (by kernel_rfl) (fun _ _ _ h => h) (Or.inr ⟨by rfl, rfl⟩) (by assumption) ?_)
              | (refine wpAnyH_take (i := 22) (oi := _) (v := ?_) (dropAt rfl) (by kernel_rfl) (by kernel_rfl) (by kernel_rfl) (fun _ _ _ h => h) (Or.inl ⟨by rfl, ?_⟩) (by assumption) ?_; rotate_left; (focus (intro w2 hSw; (try dsimp only at hSw); go_simp; try with_reducible rfl)))
              | fail
            try simp only [Act.put, List.setIfInBounds_toArray, List.set_cons_zero, List.set_cons_succ]
            first
              | (refine wpAnyH_take (i := 24) (oi := _) (v := undef) (dropAt rfl) (by kernel_rfl) (by kernel_rfl) (by kernel_rfl) (fun _ _ _ h => h) (Or.inr ⟨by rfl, rfl⟩) (by assumption) ?_)
              | (refine wpAnyH_take (i := 24) (oi := _) (v := ?_) (dropAt rfl) (by kernel_rfl) (by kernel_rfl) (by kernel_rfl) (fun _ _ _ h => h) (Or.inl ⟨by rfl, ?_⟩) (by assumption) ?_; rotate_left; (focus (intro w2 hSw; (try dsimp only at hSw); go_simp; try with_reducible rfl)))
              | fail
            try simp only [Act.put, List.setIfInBounds_toArray, List.set_cons_zero, List.set_cons_succ]
            first
              | (refine wpAnyH_take (i := 25) (oi := _) (v := undef) (dropAt rfl) (by kernel_rfl) (by kernel_rfl) (by kernel_rfl) (fun _ _ _ h => h) (Or.inr ⟨by rfl, rfl⟩) (by assumption) ?_)
              | (refine wpAnyH_take (i := 25) (oi := _) (v := ?_) (dropAt rfl) (by kernel_rfl) (by kernel_rfl) (by kernel_rfl) (fun _ _ _ h => h) (Or.inl ⟨by rfl, ?_⟩) (by assumption) ?_; rotate_left; (focus (intro w2 hSw; (try dsimp only at hSw); go_simp; try with_reducible rfl)))
              | fail
            try simp only [Act.put, List.setIfInBounds_toArray, List.set_cons_zero, List.set_cons_succ]
            first
              | (refine wpAnyH_take (i := 26) (oi := _) (v := undef) (dropAt rfl) (by kernel_rfl) (by kernel_rfl) (by kernel_rfl) (fun _ _ _ h => h) (Or.inr ⟨by rfl, rfl⟩) (by assumption) ?_)
              | (refine wpAnyH_take (i := 26) (oi := _) (v := ?_) (dropAt rfl) (by kernel_rfl) (by kernel_rfl) (by kernel_rfl) (fun _ _ _ h => h) (Or.inl ⟨by rfl, ?_⟩) (by assumption) ?_; rotate_left; (focus (intro w2 hSw; (try dsimp only at hSw); go_simp; try with_reducible rfl)))
              | fail
            try simp only [Act.put, List.setIfInBounds_toArray, List.set_cons_zero, List.set_cons_succ]
            first
              | (refine wpAnyH_take (i := 27) (oi := _) (v := undef) (dropAt rfl) (by kernel_rfl) (by kernel_rfl) (by kernel_rfl) (fun _ _ _ h => h) (Or.inr ⟨by rfl, rfl⟩) (by assumption) ?_)
              | (refine wpAnyH_take (i := 27) (oi := _) (v := ?_) (dropAt rfl) (by kernel_rfl) (by kernel_rfl) (by kernel_rfl) (fun _ _ _ h => h) (Or.inl ⟨by rfl, ?_⟩) (by assumption) ?_; rotate_left; (focus (intro w2 hSw; (try dsimp only at hSw); go_simp; try with_reducible rfl)))
              | fail
            try simp only [Act.put, List.setIfInBounds_toArray, List.set_cons_zero, List.set_cons_succ]
            first
              | (refine wpAnyH_take (i := 28) (oi := _) (v := undef) (dropAt rfl) (by kernel_rfl) (by kernel_rfl) (by kernel_rfl) (fun _ _ _ h => h) (Or.inr ⟨by rfl, rfl⟩) (by assumption) ?_)
              | (refine wpAnyH_take (i := 28) (oi := _) (v := ?_) (dropAt rfl) (by kernel_rfl) (by kernel_rfl) (by kernel_rfl) (fun _ _ _ h => h) (Or.inl ⟨by rfl, ?_⟩) (by assumption) ?_; rotate_left; (focus (intro w2 hSw; (try dsimp only at hSw); go_simp; try with_reducible rfl)))
              | fail
            try simp only [Act.put, List.setIfInBounds_toArray, List.set_cons_zero, List.set_cons_succ]
            have HHH := Lib.hid hHeld.2.2.2.2.2.2
            refine wpAnyH_ready (rs := [23, 29]) (by kernel_rfl) (by simp) ?_
            refine AllReadyH.cons (o := _) (dropAt rfl) (fun K hK => ?_) (AllReadyH.cons (o := _) (dropAt rfl) (fun K hK => ?_) AllReadyH.nil)
            · go_simp
              refine hK.out _ _ ?_ (fun hHeld9 => ?_)
              · exact HSS.out _ (HHH.out.alloc HHH.out.size _)
              clear hK K hHeld
              have hHeld := hHeld9
              clear hHeld9
              try simp only [Act.put, List.setIfInBounds_toArray, List.set_cons_zero, List.set_cons_succ]
              refine wpAnyH_ready (rs := [29]) (by kernel_rfl) (by simp) ?_
              refine AllReadyH.cons (o := _) (dropAt rfl) (fun K hK => ?_) AllReadyH.nil
              go_simp
              refine hK.out _ _ ?_ (fun hHeld => ?_)
              · exact HSS.out _ ((HHH.out.alloc HHH.out.size _).alloc (HHH.out.alloc HHH.out.size _).size _)
              clear hK K
              try simp only [Act.put, List.setIfInBounds_toArray, List.set_cons_zero, List.set_cons_succ]
              have HL := Lib.hid (two_recs wc #[.string f.rc.key, .slice Ax nx cx] #[.string f.rc.key, .slice (some ⟨bv, ov, none⟩) 1 cy])
              refine wpAnyH_ready (rs := [30]) (by kernel_rfl) (by simp) ?_
              refine AllReadyH.cons (o := _) (dropAt rfl) (fun K hK => ?_) AllReadyH.nil
              go_simp
              (go_at_call 29; refine (sameRecs_true _ _ 1 1 1 1 [f.rc] _ (slr_one' HL.out.1 (HRX.out.below HL.out.2.2)) (slr_one' HL.out.2.1 (HRY.out.below HL.out.2.2)) (by omega)).mono ?_; rintro e w8 ⟨rfl, b8⟩)
              refine hK.out _ _ ?_ (fun hHeld => ?_)
              · exact HSS.out _ (HL.out.2.2.trans (b8.mono HL.out.2.2.size))
              clear hK K
              try simp only [Act.put, List.setIfInBounds_toArray, List.set_cons_zero, List.set_cons_succ]
              have HB8 := Lib.hid (HBX.out.trans ((HL.out.2.2.trans (b8.mono HL.out.2.2.size)).mono HBX.out.size))
              clear b8
              first
                | (refine wpAnyH_take (i := 31) (oi := _) (v := undef) (dropAt rfl) (by kernel_rfl) (by kernel_rfl) (by kernel_rfl) (fun _ _ _ h => h) (Or.inr ⟨by rfl, rfl⟩) (by assumption) ?_)
                | (refine wpAnyH_take (i := 31) (oi := _) (v := ?_) (dropAt rfl) (by kernel_rfl) (by kernel_rfl) (by kernel_rfl) (fun _ _ _ h => h) (Or.inl ⟨by rfl, ?_⟩) (by assumption) ?_; rotate_left; (focus (intro w2 hSw; (try dsimp only at hSw); go_simp; try with_reducible rfl)))
                | fail
              try simp only [Act.put, List.setIfInBounds_toArray, List.set_cons_zero, List.set_cons_succ]
              first
                | (refine wpAnyH_take (i := 32) (oi := _) (v := undef) (dropAt rfl) (by kernel_rfl) (by kernel_rfl) (by kernel_rfl) (fun _ _ _ h => h) (Or.inr ⟨by rfl, rfl⟩) (by assumption) ?_)
                | (refine wpAnyH_take (i := 32) (oi := _) (v := ?_) (dropAt rfl) (by kernel_rfl) (by kernel_rfl) (by kernel_rfl) (fun _ _ _ h => h) (Or.inl ⟨by rfl, ?_⟩) (by assumption) ?_; rotate_left; (focus (intro w2 hSw; (try dsimp only at hSw); go_simp; try with_reducible rfl)))
                | fail
              try simp only [Act.put, List.setIfInBounds_toArray, List.set_cons_zero, List.set_cons_succ]
              refine wpAnyH_done (by kernel_rfl) ?_ _
              refine NoPanic.normal ?_
              clear hHeld HL HHH HSS HRX HRY HBX
              go_wp2
              go_roundw
              case rel => exact ⟨j + 1, g, k + 1, rfl, by go_num, by go_num, by omega, HST.out, HB8⟩
              case measure => simp [intOf]; omega
            · go_simp
              refine hK.out _ _ ?_ (fun hHeld9 => ?_)
              · exact HSS.out _ (HHH.out.alloc HHH.out.size _)
              clear hK K hHeld
              have hHeld := hHeld9
              clear hHeld9
              try simp only [Act.put, List.setIfInBounds_toArray, List.set_cons_zero, List.set_cons_succ]
              refine wpAnyH_ready (rs := [23]) (by kernel_rfl) (by simp) ?_
              refine AllReadyH.cons (o := _) (dropAt rfl) (fun K hK => ?_) AllReadyH.nil
              go_simp
              refine hK.out _ _ ?_ (fun hHeld => ?_)
              · exact HSS.out _ ((HHH.out.alloc HHH.out.size _).alloc (HHH.out.alloc HHH.out.size _).size _)
              clear hK K
              try simp only [Act.put, List.setIfInBounds_toArray, List.set_cons_zero, List.set_cons_succ]
              have HL := Lib.hid (two_recs' wc #[.string f.rc.key, .slice Ax nx cx] #[.string f.rc.key, .slice (some ⟨bv, ov, none⟩) 1 cy])
              refine wpAnyH_ready (rs := [30]) (by kernel_rfl) (by simp) ?_
              refine AllReadyH.cons (o := _) (dropAt rfl) (fun K hK => ?_) AllReadyH.nil
              go_simp
              (go_at_call 29; refine (sameRecs_true _ _ 1 1 1 1 [f.rc] _ (slr_one' HL.out.1 (HRX.out.below HL.out.2.2)) (slr_one' HL.out.2.1 (HRY.out.below HL.out.2.2)) (by omega)).mono ?_; rintro e w8 ⟨rfl, b8⟩)
              refine hK.out _ _ ?_ (fun hHeld => ?_)
              · exact HSS.out _ (HL.out.2.2.trans (b8.mono HL.out.2.2.size))
              clear hK K
              try simp only [Act.put, List.setIfInBounds_toArray, List.set_cons_zero, List.set_cons_succ]
              have HB8 := Lib.hid (HBX.out.trans ((HL.out.2.2.trans (b8.mono HL.out.2.2.size)).mono HBX.out.size))
              clear b8
              first
                | (refine wpAnyH_take (i := 31) (oi := _) (v := undef) (dropAt rfl) (by kernel_rfl) (by kernel_rfl) (by kernel_rfl) (fun _ _ _ h => h) (Or.inr ⟨by rfl, rfl⟩) (by assumption) ?_)
                | (refine wpAnyH_take (i := 31) (oi := _) (v := ?_) (dropAt rfl) (by kernel_rfl) (by kernel_rfl) (by kernel_rfl) (fun _ _ _ h => h) (Or.inl ⟨by rfl, ?_⟩) (by assumption) ?_; rotate_left; (focus (intro w2 hSw; (try dsimp only at hSw); go_simp; try with_reducible rfl)))
                | fail
              try simp only [Act.put, List.setIfInBounds_toArray, List.set_cons_zero, List.set_cons_succ]
              first
                | (refine wpAnyH_take (i := 32) (oi := _) (v := undef) (dropAt rfl) (by kernel_rfl) (by kernel_rfl) (by kernel_rfl) (fun _ _ _ h => h) (Or.inr ⟨by rfl, rfl⟩) (by assumption) ?_)
                | (refine wpAnyH_take (i := 32) (oi := _) (v := ?_) (dropAt rfl) (by kernel_rfl) (by kernel_rfl) (by kernel_rfl) (fun _ _ _ h => h) (Or.inl ⟨by rfl, ?_⟩) (by assumption) ?_; rotate_left; (focus (intro w2 hSw; (try dsimp only at hSw); go_simp; try with_reducible rfl)))
                | fail
              try simp only [Act.put, List.setIfInBounds_toArray, List.set_cons_zero, List.set_cons_succ]
              refine wpAnyH_done (by kernel_rfl) ?_ _
              refine NoPanic.normal ?_
              clear hHeld HL HHH HSS HRX HRY HBX
              go_wp2
              go_roundw
              case rel => exact ⟨j + 1, g, k + 1, rfl, by go_num, by go_num, by omega, HST.out, HB8⟩
              case measure => simp [intOf]; omega
          · have hg1 := filter_at (covB l1) HF.out HBB.out
            rw [← HGK.out.1] at hg1
            obtain ⟨⟨f2, ⟨Ax, nx, cx⟩, Ax2, nx2, cx2⟩, hx, rfl⟩ := row_get HM5.out hg1
            obtain ⟨f, rfl⟩ : ∃ f, f = f2 := ⟨_, rfl⟩
            have fr5 := HF5.out.below HBX.out
            have fr4 := HF4.out.below HBX.out
            have hgn : g < n5 := by rw [← fr5.len]; exact (List.getElem?_eq_some_iff.1 hx).1
            obtain ⟨gx, ox, rfl, x0, x1, x2, x3, x4⟩ := fr5.at_ hx
            obtain ⟨gy2, oy2, ey, z0, z1, z2, z3, z4⟩ := fr4.at_ HY.out
            injection ey with ey
            injection ey with ey1 ey2
            subst ey1 ey2
            have HRX := Lib.hid (fr5.rc _ (List.mem_of_getElem? hx))
            have HRY := Lib.hid (fr4.rc _ (List.mem_of_getElem? HY.out))
            have HSS := Lib.hid (fun (W' : World) (bl : Below wc.heap.size wc W') => And.intro (cell_up x1 bl) (And.intro (cell_up x2 bl) (And.intro (cell_up x3 bl) (And.intro (cell_up z1 bl) (And.intro (cell_up z2 bl) (And.intro (cell_up z3 bl) bl))))))
            have HST := Lib.hid (show g + 1 = ((l.take (j + 1)).filter (covB l1)).length ∧ k = ((l.take (j + 1)).filter fun f => !covB l1 f).length from by
              rw [filter_step _ HF.out, filter_step _ HF.out, if_pos HBB.out, if_neg (by rw [HBB.out]; simp), ← HGK.out.1, ← HGK.out.2]
              exact ⟨rfl, rfl⟩)
            have q1 : decide (n5 ≤ g) = false := decide_eq_false (by omega)
            have k0 : (0 : Int) ≤ (g : Int) := by omega
            have k1 : (g : Int) < (n5 : Int) := by omega
            clear hg1 hx fr5 fr4 x0 x1 x2 x3 x4 z0 z1 z2 z3 z4
            go_wp2_with fail
            refine wp_region_noPanic ?_
            refine wp_region_held_drew (S := (fun w' => w'.cell? ⟨gx, ox + g * 5 + 1, none⟩ = some (.int .i64 f.seq) ∧ w'.cell? ⟨gx, ox + g * 5 + 2, none⟩ = some (.string f.rc.key) ∧ w'.cell? ⟨gx, ox + g * 5 + 3, none⟩ = some (.slice Ax nx cx) ∧ w'.cell? ⟨gy, oy + j * 5 + 1, none⟩ = some (.int .i64 f.seq) ∧ w'.cell? ⟨gy, oy + j * 5 + 2, none⟩ = some (.string f.rc.key) ∧ w'.cell? ⟨gy, oy + j * 5 + 3, none⟩ = some (.slice (some ⟨bv, ov, none⟩) 1 cy) ∧ Below wc.heap.size wc w')) (by kernel_rfl) ?_ (fun hHeld => ?_)
            · exact HSS.out _ (Below.refl _ _).drew
            first
              | (refine wpAnyH_take (i := 0) (oi := _) (v := undef) (dropAt rfl) (by kernel_rfl) (by kernel_rfl) (by kernel_rfl) (fun _ _ _ h => h) (Or.inr ⟨by rfl, rfl⟩) (by assumption) ?_)
              | (refine wpAnyH_take (i := 0) (oi := _) (v := ?_) (dropAt rfl) (by kernel_rfl) (by kernel_rfl) (by kernel_rfl) (fun _ _ _ h => h) (Or.inl ⟨by rfl, ?_⟩) (by assumption) ?_; rotate_left; (focus (intro w2 hSw; (try dsimp only at hSw); go_simp; try with_reducible rfl)))
              | fail
            try simp only [Act.put, List.setIfInBounds_toArray, List.set_cons_zero, List.set_cons_succ]
            first
              | (refine wpAnyH_take (i := 1) (oi := _) (v := undef) (dropAt rfl) (by kernel_rfl) (by kernel_rfl) (by kernel_rfl) (fun _ _ _ h => h) (Or.inr ⟨by rfl, rfl⟩) (by assumption) ?_)
              | (refine wpAnyH_take (i := 1) (oi := _) (v := ?_) (dropAt rfl) (by kernel_rfl) (by kernel_rfl) (by kernel_rfl) (fun _ _ _ h => h) (Or.inl ⟨by rfl, ?_⟩) (by assumption) ?_; rotate_left; (focus (intro w2 hSw; (try dsimp only at hSw); go_simp; try with_reducible rfl)))
              | fail
            try simp only [Act.put, List.setIfInBounds_toArray, List.set_cons_zero, List.set_cons_succ]
            first
              | (refine wpAnyH_take (i := 2) (oi := _) (v := undef) (dropAt rfl) (by kernel_rfl) (by kernel_rfl) (by kernel_rfl) (fun _ _ _ h => h) (Or.inr ⟨by rfl, rfl⟩) (by assumption) ?_)
              | (refine wpAnyH_take (i := 2) (oi := _) (v := ?_) (dropAt rfl) (by kernel_rfl) (by kernel_rfl) (by kernel_rfl) (fun _ _ _ h => h) (Or.inl ⟨by rfl, ?_⟩) (by assumption) ?_; rotate_left; (focus (intro w2 hSw; (try dsimp only at hSw); go_simp; try with_reducible rfl)))
              | fail
            try simp only [Act.put, List.setIfInBounds_toArray, List.set_cons_zero, List.set_cons_succ]
            first
              | (refine wpAnyH_take (i := 3) (oi := _) (v := undef) (dropAt rfl) (by kernel_rfl) (by kernel_rfl) (by kernel_rfl) (fun _ _ _ h => h) (Or.inr ⟨by rfl, rfl⟩) (by assumption) ?_)
              | (refine wpAnyH_take (i := 3) (oi := _) (v := ?_) (dropAt rfl) (by kernel_rfl) (by kernel_rfl) (by kernel_rfl) (fun _ _ _ h => h) (Or.inl ⟨by rfl, ?_⟩) (by assumption) ?_; rotate_left; (focus (intro w2 hSw; (try dsimp only at hSw); go_simp; try with_reducible rfl)))
              | fail
            try simp only [Act.put, List.setIfInBounds_toArray, List.set_cons_zero, List.set_cons_succ]
            first
              | (refine wpAnyH_take (i := 4) (oi := _) (v := undef) (dropAt rfl) (by kernel_rfl) (by kernel_rfl) (by kernel_rfl) (fun _ _ _ h => h) (Or.inr ⟨by rfl, rfl⟩) (by assumption) ?_)
              | (refine wpAnyH_take (i := 4) (oi := _) (v := ?_) (dropAt rfl) (by kernel_rfl) (by kernel_rfl) (by kernel_rfl) (fun _ _ _ h => h) (Or.inl ⟨by rfl, ?_⟩) (by assumption) ?_; rotate_left; (focus (intro w2 hSw; (try dsimp only at hSw); go_simp; try with_reducible rfl)))
              | fail
            try simp only [Act.put, List.setIfInBounds_toArray, List.set_cons_zero, List.set_cons_succ]
            first
              | (refine wpAnyH_take (i := 5) (oi := _) (v := undef) (dropAt rfl) (by kernel_rfl) (by kernel_rfl) (by kernel_rfl) (fun _ _ _ h => h) (Or.inr ⟨by rfl, rfl⟩) (by assumption) ?_)
              | (refine wpAnyH_take (i := 5) (oi := _) (v := ?_) (dropAt rfl) (by kernel_rfl) (by kernel_rfl) (by kernel_rfl) (fun _ _ _ h => h) (Or.inl ⟨by rfl, ?_⟩) (by assumption) ?_; rotate_left; (focus (intro w2 hSw; (try dsimp only at hSw); go_simp; try with_reducible rfl)))
              | fail
            try simp only [Act.put, List.setIfInBounds_toArray, List.set_cons_zero, List.set_cons_succ]
            first
              | (refine wpAnyH_take (i := 6) (oi := _) (v := undef) (dropAt rfl) (by kernel_rfl) (by kernel_rfl) (by kernel_rfl) (fun _ _ _ h => h) (Or.inr ⟨by rfl, rfl⟩) (by assumption) ?_)
              | (refine wpAnyH_take (i := 6) (oi := _) (v := ?_) (dropAt rfl) (by kernel_rfl) (by kernel_rfl) (by kernel_rfl) (fun _ _ _ h => h) (Or.inl ⟨by rfl, ?_⟩) (by assumption) ?_; rotate_left; (focus (intro w2 hSw; (try dsimp only at hSw); go_simp; try with_reducible rfl)))
              | fail
            try simp only [Act.put, List.setIfInBounds_toArray, List.set_cons_zero, List.set_cons_succ]
            first
              | (refine wpAnyH_take (i := 7) (oi := _) (v := undef) (dropAt rfl) (by kernel_rfl) (by kernel_rfl) (by kernel_rfl) (fun _ _ _ h => h) (Or.inr ⟨by rfl, rfl⟩) (by assumption) ?_)
              | (refine wpAnyH_take (i := 7) (oi := _) (v := ?_) (dropAt rfl) (by kernel_rfl) (by kernel_rfl) (by kernel_rfl) (fun _ _ _ h => h) (Or.inl ⟨by rfl, ?_⟩) (by assumption) ?_; rotate_left; (focus (intro w2 hSw; (try dsimp only at hSw); go_simp; try with_reducible rfl)))
              | fail
            try simp only [Act.put, List.setIfInBounds_toArray, List.set_cons_zero, List.set_cons_succ]
            first
              | (refine wpAnyH_take (i := 8) (oi := _) (v := undef) (dropAt rfl) (by kernel_rfl) (by kernel_rfl) (by kernel_rfl) (fun _ _ _ h => h) (Or.inr ⟨by rfl, rfl⟩) (by assumption) ?_)
              | (refine wpAnyH_take (i := 8) (oi := _) (v := ?_) (dropAt rfl) (by kernel_rfl) (by kernel_rfl) (by kernel_rfl) (fun _ _ _ h => h) (Or.inl ⟨by rfl, ?_⟩) (by assumption) ?_; rotate_left; (focus (intro w2 hSw; (try dsimp only at hSw); go_simp; try with_reducible rfl)))
              | fail
            try simp only [Act.put, List.setIfInBounds_toArray, List.set_cons_zero, List.set_cons_succ]
            first
              | (refine wpAnyH_take (i := 9) (oi := _) (v := undef) (dropAt rfl) (by kernel_rfl) (by kernel_rfl) (by kernel_rfl) (fun _ _ _ h => h) (Or.inr ⟨by rfl, rfl⟩) (by assumption) ?_)
              | (refine wpAnyH_take (i := 9) (oi := _) (v := ?_) (dropAt rfl) (by kernel_rfl) (by kernel_rfl) (by kernel_rfl) (fun _ _ _ h => h) (Or.inl ⟨by rfl, ?_⟩) (by assumption) ?_; rotate_left; (focus (intro w2 hSw; (try dsimp only at hSw); go_simp; try with_reducible rfl)))
              | fail
            try simp only [Act.put, List.setIfInBounds_toArray, List.set_cons_zero, List.set_cons_succ]
            first
              | (refine wpAnyH_take (i := 10) (oi := _) (v := undef) (dropAt rfl) (by kernel_rfl) (by kernel_rfl) (by kernel_rfl) (fun _ _ _ h => h) (Or.inr ⟨by rfl, rfl⟩) (by assumption) ?_)
              | (refine wpAnyH_take (i := 10) (oi := _) (v := ?_) (dropAt rfl) (by kernel_rfl) (by kernel_rfl) (by kernel_rfl) (fun _ _ _ h => h) (Or.inl ⟨by rfl, ?_⟩) (by assumption) ?_; rotate_left; (focus (intro w2 hSw; (try dsimp only at hSw); go_simp; try with_reducible rfl)))
              | fail
            try simp only [Act.put, List.setIfInBounds_toArray, List.set_cons_zero, List.set_cons_succ]
            first
              | (refine wpAnyH_take (i := 11) (oi := _) (v := undef) (dropAt rfl) (by kernel_rfl) (by kernel_rfl) (by kernel_rfl) (fun _ _ _ h => h) (Or.inr ⟨by rfl, rfl⟩) (by assumption) ?_)
              | (refine wpAnyH_take (i := 11) (oi := _) (v := ?_) (dropAt rfl) (by kernel_rfl) (by kernel_rfl) (by kernel_rfl) (fun _ _ _ h => h) (Or.inl ⟨by rfl, ?_⟩) (by assumption) ?_; rotate_left; (focus (intro w2 hSw; (try dsimp only at hSw); go_simp; try with_reducible rfl)))
              | fail
            try simp only [Act.put, List.setIfInBounds_toArray, List.set_cons_zero, List.set_cons_succ]
            first
              | (refine wpAnyH_take (i := 12) (oi := _) (v := undef) (dropAt rfl) (by kernel_rfl) (by kernel_rfl) (by kernel_rfl) (fun _ _ _ h => h) (Or.inr ⟨by rfl, rfl⟩) (by assumption) ?_)
              | (refine wpAnyH_take (i := 12) (oi := _) (v := ?_) (dropAt rfl) (by kernel_rfl) (by kernel_rfl) (by kernel_rfl) (fun _ _ _ h => h) (Or.inl ⟨by rfl, ?_⟩) (by assumption) ?_; rotate_left; (focus (intro w2 hSw; (try dsimp only at hSw); go_simp; try with_reducible rfl)))
              | fail
            try simp only [Act.put, List.setIfInBounds_toArray, List.set_cons_zero, List.set_cons_succ]
            first
              | (refine wpAnyH_take (i := 13) (oi := _) (v := undef) (dropAt rfl) (by kernel_rfl) (by kernel_rfl) (by kernel_rfl) (fun _ _ _ h => h) (Or.inr ⟨by rfl, rfl⟩) (by assumption) ?_)
              | (refine wpAnyH_take (i := 13) (oi := _) (v := ?_) (dropAt rfl) (by kernel_rfl) (by kernel_rfl) (by kernel_rfl) (fun _ _ _ h => h) (Or.inl ⟨by rfl, ?_⟩) (by assumption) ?_; rotate_left; (focus (intro w2 hSw; (try dsimp only at hSw); go_simp; try with_reducible rfl)))
              | fail
            try simp only [Act.put, List.setIfInBounds_toArray, List.set_cons_zero, List.set_cons_succ]
            first
              | (refine wpAnyH_take (i := 14) (oi := _) (v := undef) (dropAt rfl) (by kernel_rfl) (by kernel_rfl) (by kernel_rfl) (fun _ _ _ h => h) (Or.inr ⟨by rfl, rfl⟩) (by assumption) ?_)
              | (refine wpAnyH_take (i := 14) (oi := _) (v := ?_) (dropAt rfl) (by kernel_rfl) (by kernel_rfl) (by kernel_rfl) (fun _ _ _ h => h) (Or.inl ⟨by rfl, ?_⟩) (by assumption) ?_; rotate_left; (focus (intro w2 hSw; (try dsimp only at hSw); go_simp; try with_reducible rfl)))
              | fail
            try simp only [Act.put, List.setIfInBounds_toArray, List.set_cons_zero, List.set_cons_succ]
            first
              | (refine wpAnyH_take (i := 15) (oi := _) (v := undef) (dropAt rfl) (by kernel_rfl) (by kernel_rfl) (by kernel_rfl) (fun _ _ _ h => h) (Or.inr ⟨by rfl, rfl⟩) (by assumption) ?_)
              | (refine wpAnyH_take (i := 15) (oi := _) (v := ?_) (dropAt rfl) (by kernel_rfl) (by kernel_rfl) (by kernel_rfl) (fun _ _ _ h => h) (Or.inl ⟨by rfl, ?_⟩) (by assumption) ?_; rotate_left; (focus (intro w2 hSw; (try dsimp only at hSw); go_simp; try with_reducible rfl)))
              | fail
            try simp only [Act.put, List.setIfInBounds_toArray, List.set_cons_zero, List.set_cons_succ]
            first
              | (refine wpAnyH_take (i := 16) (oi := _) (v := undef) (dropAt rfl) (by kernel_rfl) (by kernel_rfl) (by kernel_rfl) (fun _ _ _ h => h) (Or.inr ⟨by rfl, rfl⟩) (by assumption) ?_)
              | (refine wpAnyH_take (i := 16) (oi := _) (v := ?_) (dropAt rfl) (by kernel_rfl) (by kernel_rfl) (by kernel_rfl) (fun _ _ _ h => h) (Or.inl ⟨by rfl, ?_⟩) (by assumption) ?_; rotate_left; (focus (intro w2 hSw; (try dsimp only at hSw); go_simp; try with_reducible rfl)))
              | fail
            try simp only [Act.put, List.setIfInBounds_toArray, List.set_cons_zero, List.set_cons_succ]
            first
              | (refine wpAnyH_take (i := 17) (oi := _) (v := undef) (dropAt rfl) (by kernel_rfl) (by kernel_rfl) (by kernel_rfl) (fun _ _ _ h => h) (Or.inr ⟨by rfl, rfl⟩) (by assumption) ?_)
              | (refine wpAnyH_take (i := 17) (oi := _) (v := ?_) (dropAt rfl) (by kernel_rfl) (by kernel_rfl) (by kernel_rfl) (fun _ _ _ h => h) (Or.inl ⟨by rfl, ?_⟩) (by assumption) ?_; rotate_left; (focus (intro w2 hSw; (try dsimp only at hSw); go_simp; try with_reducible rfl)))
              | fail
            try simp only [Act.put, List.setIfInBounds_toArray, List.set_cons_zero, List.set_cons_succ]
            first
              | (refine wpAnyH_take (i := 18) (oi := _) (v := undef) (dropAt rfl) (by kernel_rfl) (by kernel_rfl) (by kernel_rfl) (fun _ _ _ h => h) (Or.inr ⟨by rfl, rfl⟩) (by assumption) ?_)
              | (refine wpAnyH_take (i := 18) (oi := _) (v := ?_) (dropAt rfl) (by kernel_rfl) (by kernel_rfl) (by kernel_rfl) (fun _ _ _ h => h) (Or.inl ⟨by rfl, ?_⟩) (by assumption) ?_; rotate_left; (focus (intro w2 hSw; (try dsimp only at hSw); go_simp; try with_reducible rfl)))
              | fail
            try simp only [Act.put, List.setIfInBounds_toArray, List.set_cons_zero, List.set_cons_succ]
            first
              | (refine wpAnyH_take (i := 19) (oi := _) (v := undef) (dropAt rfl) (by kernel_rfl) (by kernel_rfl) (by kernel_rfl) (fun _ _ _ h => h) (Or.inr ⟨by rfl, rfl⟩) (by assumption) ?_)
              | (refine wpAnyH_take (i := 19) (oi := _) (v := ?_) (dropAt rfl) (by kernel_rfl) (by kernel_rfl) (by kernel_rfl) (fun _ _ _ h => h) (Or.inl ⟨by rfl, ?_⟩) (by assumption) ?_; rotate_left; (focus (intro w2 hSw; (try dsimp only at hSw); go_simp; try with_reducible rfl)))
              | fail
            try simp only [Act.put, List.setIfInBounds_toArray, List.set_cons_zero, List.set_cons_succ]
            first
              | (refine wpAnyH_take (i := 20) (oi := _) (v := undef) (dropAt rfl) (by kernel_rfl) (by kernel_rfl) (by kernel_rfl) (fun _ _ _ h => h) (Or.inr ⟨by rfl, rfl⟩) (by assumption) ?_)
              | (refine wpAnyH_take (i := 20) (oi := _) (v := ?_) (dropAt rfl) (by kernel_rfl) (by kernel_rfl) (by kernel_rfl) (fun _ _ _ h => h) (Or.inl ⟨by rfl, ?_⟩) (by assumption) ?_; rotate_left; (focus (intro w2 hSw; (try dsimp only at hSw); go_simp; try with_reducible rfl)))
              | fail
            try simp only [Act.put, List.setIfInBounds_toArray, List.set_cons_zero, List.set_cons_succ]
            first
              | (refine wpAnyH_take (i := 21) (oi := _) (v := undef) (dropAt rfl) (by kernel_rfl) (by kernel_rfl) (by kernel_rfl) (fun _ _ _ h => h) (Or.inr ⟨by rfl, rfl⟩) (by assumption) ?_)
              | (refine wpAnyH_take (i := 21) (oi := _) (v := ?_) (dropAt rfl) (by kernel_rfl) (by kernel_rfl) (by kernel_rfl) (fun _ _ _ h => h) (Or.inl ⟨by rfl, ?_⟩) (by assumption) ?_; rotate_left; (focus (intro w2 hSw; (try dsimp only at hSw); go_simp; try with_reducible rfl)))
              | fail
            try simp only [Act.put, List.setIfInBounds_toArray, List.set_cons_zero, List.set_cons_succ]
            first
              | (refine wpAnyH_take (i := 22) (oi := _) (v := undef) (dropAt rfl) (by kernel_rfl) (by kernel_rfl) (by kernel_rfl) (fun _ _ _ h => h) (Or.inr ⟨by rfl, rfl⟩) (by assumption) ?_)
              | (refine wpAnyH_take (i := 22) (oi := _) (v := ?_) (dropAt rfl) (by kernel_rfl) (by kernel_rfl) (by kernel_rfl) (fun _ _ _ h => h) (Or.inl ⟨by rfl, ?_⟩) (by assumption) ?_; rotate_left; (focus (intro w2 hSw; (try dsimp only at hSw); go_simp; try with_reducible rfl)))
              | fail
            try simp only [Act.put, List.setIfInBounds_toArray, List.set_cons_zero, List.set_cons_succ]
            first
              | (refine wpAnyH_take (i := 24) (oi := _) (v := undef) (dropAt rfl) (by kernel_rfl) (by kernel_rfl) (by kernel_rfl) (fun _ _ _ h => h) (Or.inr ⟨by rfl, rfl⟩) (by assumption) ?_)
              | (refine wpAnyH_take (i := 24) (oi := _) (v := ?_) (dropAt rfl) (by kernel_rfl) (by kernel_rfl) (by kernel_rfl) (fun _ _ _ h => h) (Or.inl ⟨by rfl, ?_⟩) (by assumption) ?_; rotate_left; (focus (intro w2 hSw; (try dsimp only at hSw); go_simp; try with_reducible rfl)))
              | fail
            try simp only [Act.put, List.setIfInBounds_toArray, List.set_cons_zero, List.set_cons_succ]
            first
              | (refine wpAnyH_take (i := 25) (oi := _) (v := undef) (dropAt rfl) (by kernel_rfl) (by kernel_rfl) (by kernel_rfl) (fun _ _ _ h => h) (Or.inr ⟨by rfl, rfl⟩) (by assumption) ?_)
              | (refine wpAnyH_take (i := 25) (oi := _) (v := ?_) (dropAt rfl) (by kernel_rfl) (by kernel_rfl) (by kernel_rfl) (fun _ _ _ h => h) (Or.inl ⟨by rfl, ?_⟩) (by assumption) ?_; rotate_left; (focus (intro w2 hSw; (try dsimp only at hSw); go_simp; try with_reducible rfl)))
              | fail
            try simp only [Act.put, List.setIfInBounds_toArray, List.set_cons_zero, List.set_cons_succ]
            first
              | (refine wpAnyH_take (i := 26) (oi := _) (v := undef) (dropAt rfl) (by kernel_rfl) (by kernel_rfl) (by kernel_rfl) (fun _ _ _ h => h) (Or.inr ⟨by rfl, rfl⟩) (by assumption) ?_)
              | (refine wpAnyH_take (i := 26) (oi := _) (v := ?_) (dropAt rfl) (by kernel_rfl) (by kernel_rfl) (by kernel_rfl) (fun _ _ _ h => h) (Or.inl ⟨by rfl, ?_⟩) (by assumption) ?_; rotate_left; (focus (intro w2 hSw; (try dsimp only at hSw); go_simp; try with_reducible rfl)))
              | fail
            try simp only [Act.put, List.setIfInBounds_toArray, List.set_cons_zero, List.set_cons_succ]
            first
              | (refine wpAnyH_take (i := 27) (oi := _) (v := undef) (dropAt rfl) (by kernel_rfl) (by kernel_rfl) (by kernel_rfl) (fun _ _ _ h => h) (Or.inr ⟨by rfl, rfl⟩) (by assumption) ?_)
              | (refine wpAnyH_take (i := 27) (oi := _) (v := ?_) (dropAt rfl) (by kernel_rfl) (by kernel_rfl) (by kernel_rfl) (fun _ _ _ h => h) (Or.inl ⟨by rfl, ?_⟩) (by assumption) ?_; rotate_left; (focus (intro w2 hSw; (try dsimp only at hSw); go_simp; try with_reducible rfl)))
              | fail
            try simp only [Act.put, List.setIfInBounds_toArray, List.set_cons_zero, List.set_cons_succ]
            first
              | (refine wpAnyH_take (i := 28) (oi := _) (v := undef) (dropAt rfl) (by kernel_rfl) (by kernel_rfl) (by kernel_rfl) (fun _ _ _ h => h) (Or.inr ⟨by rfl, rfl⟩) (by assumption) ?_)
              | (refine wpAnyH_take (i := 28) (oi := _) (v := ?_) (dropAt rfl) (by kernel_rfl) (by kernel_rfl) (by kernel_rfl) (fun _ _ _ h => h) (Or.inl ⟨by rfl, ?_⟩) (by assumption) ?_; rotate_left; (focus (intro w2 hSw; (try dsimp only at hSw); go_simp; try with_reducible rfl)))
              | fail
            try simp only [Act.put, List.setIfInBounds_toArray, List.set_cons_zero, List.set_cons_succ]
            have HHH := Lib.hid hHeld.2.2.2.2.2.2
            refine wpAnyH_ready (rs := [23, 29]) (by kernel_rfl) (by simp) ?_
            refine AllReadyH.cons (o := _) (dropAt rfl) (fun K hK => ?_) (AllReadyH.cons (o := _) (dropAt rfl) (fun K hK => ?_) AllReadyH.nil)
            · go_simp
              refine hK.out _ _ ?_ (fun hHeld9 => ?_)
              · exact HSS.out _ (HHH.out.alloc HHH.out.size _)
              clear hK K hHeld
              have hHeld := hHeld9
              clear hHeld9
              try simp only [Act.put, List.setIfInBounds_toArray, List.set_cons_zero, List.set_cons_succ]
              refine wpAnyH_ready (rs := [29]) (by kernel_rfl) (by simp) ?_
              refine AllReadyH.cons (o := _) (dropAt rfl) (fun K hK => ?_) AllReadyH.nil
              go_simp
              refine hK.out _ _ ?_ (fun hHeld => ?_)
              · exact HSS.out _ ((HHH.out.alloc HHH.out.size _).alloc (HHH.out.alloc HHH.out.size _).size _)
              clear hK K
              try simp only [Act.put, List.setIfInBounds_toArray, List.set_cons_zero, List.set_cons_succ]
              have HL := Lib.hid (two_recs wc #[.string f.rc.key, .slice Ax nx cx] #[.string f.rc.key, .slice (some ⟨bv, ov, none⟩) 1 cy])
              refine wpAnyH_ready (rs := [30]) (by kernel_rfl) (by simp) ?_
              refine AllReadyH.cons (o := _) (dropAt rfl) (fun K hK => ?_) AllReadyH.nil
              go_simp
              (go_at_call 29; refine (sameRecs_true _ _ 1 1 1 1 [f.rc] _ (slr_one' HL.out.1 (HRX.out.below HL.out.2.2)) (slr_one' HL.out.2.1 (HRY.out.below HL.out.2.2)) (by omega)).mono ?_; rintro e w8 ⟨rfl, b8⟩)
              refine hK.out _ _ ?_ (fun hHeld => ?_)
              · exact HSS.out _ (HL.out.2.2.trans (b8.mono HL.out.2.2.size))
              clear hK K
              try simp only [Act.put, List.setIfInBounds_toArray, List.set_cons_zero, List.set_cons_succ]
              have HB8 := Lib.hid (HBX.out.trans ((HL.out.2.2.trans (b8.mono HL.out.2.2.size)).mono HBX.out.size))
              clear b8
              first
                | (refine wpAnyH_take (i := 31) (oi := _) (v := undef) (dropAt rfl) (by kernel_rfl) (by kernel_rfl) (by kernel_rfl) (fun _ _ _ h => h) (Or.inr ⟨by rfl, rfl⟩) (by assumption) ?_)
                | (refine wpAnyH_take (i := 31) (oi := _) (v := ?_) (dropAt rfl) (by kernel_rfl) (by kernel_rfl) (by kernel_rfl) (fun _ _ _ h => h) (Or.inl ⟨by rfl, ?_⟩) (by assumption) ?_; rotate_left; (focus (intro w2 hSw; (try dsimp only at hSw); go_simp; try with_reducible rfl)))
                | fail
              try simp only [Act.put, List.setIfInBounds_toArray, List.set_cons_zero, List.set_cons_succ]
              first
                | (refine wpAnyH_take (i := 32) (oi := _) (v := undef) (dropAt rfl) (by kernel_rfl) (by kernel_rfl) (by kernel_rfl) (fun _ _ _ h => h) (Or.inr ⟨by rfl, rfl⟩) (by assumption) ?_)
                | (refine wpAnyH_take (i := 32) (oi := _) (v := ?_) (dropAt rfl) (by kernel_rfl) (by kernel_rfl) (by kernel_rfl) (fun _ _ _ h => h) (Or.inl ⟨by rfl, ?_⟩) (by assumption) ?_; rotate_left; (focus (intro w2 hSw; (try dsimp only at hSw); go_simp; try with_reducible rfl)))
                | fail
              try simp only [Act.put, List.setIfInBounds_toArray, List.set_cons_zero, List.set_cons_succ]
              refine wpAnyH_done (by kernel_rfl) ?_ _
              refine NoPanic.normal ?_
              clear hHeld HL HHH HSS HRX HRY HBX
              go_wp2
              go_roundw
              case rel => exact ⟨j + 1, g + 1, k, by go_num, rfl, by go_num, by omega, HST.out, HB8⟩
              case measure => simp [intOf]; omega
            · go_simp
              refine hK.out _ _ ?_ (fun hHeld9 => ?_)
              · exact HSS.out _ (HHH.out.alloc HHH.out.size _)
              clear hK K hHeld
              have hHeld := hHeld9
              clear hHeld9
              try simp only [Act.put, List.setIfInBounds_toArray, List.set_cons_zero, List.set_cons_succ]
              refine wpAnyH_ready (rs := [23]) (by kernel_rfl) (by simp) ?_
              refine AllReadyH.cons (o := _) (dropAt rfl) (fun K hK => ?_) AllReadyH.nil
              go_simp
              refine hK.out _ _ ?_ (fun hHeld => ?_)
              · exact HSS.out _ ((HHH.out.alloc HHH.out.size _).alloc (HHH.out.alloc HHH.out.size _).size _)
              clear hK K
              try simp only [Act.put, List.setIfInBounds_toArray, List.set_cons_zero, List.set_cons_succ]
              have HL := Lib.hid (two_recs' wc #[.string f.rc.key, .slice Ax nx cx] #[.string f.rc.key, .slice (some ⟨bv, ov, none⟩) 1 cy])
              refine wpAnyH_ready (rs := [30]) (by kernel_rfl) (by simp) ?_
              refine AllReadyH.cons (o := _) (dropAt rfl) (fun K hK => ?_) AllReadyH.nil
              go_simp
              (go_at_call 29; refine (sameRecs_true _ _ 1 1 1 1 [f.rc] _ (slr_one' HL.out.1 (HRX.out.below HL.out.2.2)) (slr_one' HL.out.2.1 (HRY.out.below HL.out.2.2)) (by omega)).mono ?_; rintro e w8 ⟨rfl, b8⟩)
              refine hK.out _ _ ?_ (fun hHeld => ?_)
              · exact HSS.out _ (HL.out.2.2.trans (b8.mono HL.out.2.2.size))
              clear hK K
              try simp only [Act.put, List.setIfInBounds_toArray, List.set_cons_zero, List.set_cons_succ]
              have HB8 := Lib.hid (HBX.out.trans ((HL.out.2.2.trans (b8.mono HL.out.2.2.size)).mono HBX.out.size))
              clear b8
              first
                | (refine wpAnyH_take (i := 31) (oi := _) (v := undef) (dropAt rfl) (by kernel_rfl) (by kernel_rfl) (by kernel_rfl) (fun _ _ _ h => h) (Or.inr ⟨by rfl, rfl⟩) (by assumption) ?_)
                | (refine wpAnyH_take (i := 31) (oi := _) (v := ?_) (dropAt rfl) (by kernel_rfl) (by kernel_rfl) (by kernel_rfl) (fun _ _ _ h => h) (Or.inl ⟨by rfl, ?_⟩) (by assumption) ?_; rotate_left; (focus (intro w2 hSw; (try dsimp only at hSw); go_simp; try with_reducible rfl)))
                | fail
              try simp only [Act.put, List.setIfInBounds_toArray, List.set_cons_zero, List.set_cons_succ]
              first
                | (refine wpAnyH_take (i := 32) (oi := _) (v := undef) (dropAt rfl) (by kernel_rfl) (by kernel_rfl) (by kernel_rfl) (fun _ _ _ h => h) (Or.inr ⟨by rfl, rfl⟩) (by assumption) ?_)
                | (refine wpAnyH_take (i := 32) (oi := _) (v := ?_) (dropAt rfl) (by kernel_rfl) (by kernel_rfl) (by kernel_rfl) (fun _ _ _ h => h) (Or.inl ⟨by rfl, ?_⟩) (by assumption) ?_; rotate_left; (focus (intro w2 hSw; (try dsimp only at hSw); go_simp; try with_reducible rfl)))
                | fail
              try simp only [Act.put, List.setIfInBounds_toArray, List.set_cons_zero, List.set_cons_succ]
              refine wpAnyH_done (by kernel_rfl) ?_ _
              refine NoPanic.normal ?_
              clear hHeld HL HHH HSS HRX HRY HBX
              go_wp2
              go_roundw
              case rel => exact ⟨j + 1, g + 1, k, by go_num, rfl, by go_num, by omega, HST.out, HB8⟩
              case measure => simp [intOf]; omega
        · obtain rfl : j = l.length := by omega
          have hgk := HGK.out
          rw [List.take_length] at hgk
          have hg : g = n5 := by have := HN.out.1; omega
          have hk : k = n6 := by have := HN.out.2; omega
          subst hg hk
          have H7 := H6.out.below HBQ.out
          have HB7 := Lib.hid (HB6.out.trans (HBQ.out.mono HB6.out.size))
          have CL := cleanP a1 len1 cap1 l1 H7 (HT.out _ HB7.out).2 hn1 (fun b off hn e => .inl (HK.out b (HVB.out b off hn e))) (by have := List.length_filter_le (fun f => !covB l1 f) l; omega)
          have CL := Lib.hid CL
          have q1 : ((g : Int) == (g : Int)) = true := beq_self_eq_true _
          clear hgk H7
          go_wp2_with fail
          refine CL.out.mono ?_
          rintro e w9 ⟨A9, n9, c9, rows9, rfl, hm9, fr9, h9⟩
          have hn9 : n9 = 0 := by
            have h1 := fr9.len
            have h3 : (l.filter fun a => covB l1 a && !covB l1 a) = [] := List.filter_eq_nil_iff.2 (fun a _ => by simp)
            have h2 : rows9.length = 0 := by
              have := congrArg List.length hm9
              rw [List.length_map, List.filter_filter, h3] at this
              exact this
            omega
          subst hn9
          have HE := Lib.hid (h9.outer HB4.out (fun b hb => .inl (HK.out b hb)) HB4.out.size)
          clear hm9 fr9 h9 CL
          go_wp2
          go_ret
          exact ⟨rfl, HE.out⟩
end Go.Proofs.Ytilagblpamhmkaa
