/-
  firthlaw18.InboxRoom
-/
import Derived.Test.YtilagblpamhmkaaInboxRight
namespace Go.Proofs.Ytilagblpamhmkaa
open Go.RowKit
set_option linter.unusedVariables false

def z4 : List Int := [0, 0, 0, 0]
def farN (l : List Fa) : Nat := l.countP fun f => !mayB [0, 0, 0, 0] f
theorem farN_step {l : List Fa} {k : Nat} {f : Fa} (h : l[k]? = some f) : farN (l.take (k + 1)) = farN (l.take k) + (if mayB [0, 0, 0, 0] f = true then 0 else 1) := by
  unfold farN
  rw [List.take_add_one, h]
  simp only [Option.toList, List.countP_append]
  cases hm : mayB [0, 0, 0, 0] f <;> simp [hm]
theorem farN_yes {l : List Fa} {k : Nat} {f : Fa} (h : l[k]? = some f) (hm : mayB [0, 0, 0, 0] f = true) : farN (l.take (k + 1)) = farN (l.take k) := by rw [farN_step h, if_pos hm]; rfl
theorem farN_no {l : List Fa} {k : Nat} {f : Fa} (h : l[k]? = some f) (hm : mayB [0, 0, 0, 0] f = false) : farN (l.take (k + 1)) = farN (l.take k) + 1 := by rw [farN_step h, if_neg (by rw [hm]; simp)]
theorem farN_le (l : List Fa) : farN l ≤ l.length := List.countP_le_length
/-- What taking one in did. -/
structure Took (room : Int) (l : List Fa) (f : Fa) (t : Int) (l' : List Fa) : Prop where
  ans : t = 0 ∨ t = 1 ∨ t = 2 ∨ t = 3 ∨ t = 4
  bad : rightF f = decide (t ≠ 0)
  kept : (t = 2 ∧ l'.length = l.length + 1) ∨ (t ≠ 2 ∧ l'.length = l.length)
  full : t = 4 → room ≤ (l.length : Int) ∧ mayB [0, 0, 0, 0] f = false
  few : (farN l : Int) ≤ room → (farN l' : Int) ≤ room
theorem took (room : Int) (l : List Fa) (f : Fa) : Took room l f (takeA room l f [0, 0, 0, 0]) (takeI room l f [0, 0, 0, 0]) := by
  cases h1 : rightF f
  · have e : takeA room l f [0, 0, 0, 0] = 0 := by unfold takeA; rw [if_pos h1]
    have e2 : takeI room l f [0, 0, 0, 0] = l := by unfold takeI; rw [e]; rfl
    rw [e, e2]
    exact ⟨by omega, by rw [h1]; rfl, .inr ⟨by omega, rfl⟩, fun h => absurd h (by omega), fun h => h⟩
  · cases h2 : covB [0, 0, 0, 0] f
    · cases h3 : l.any (sameDot f)
      · by_cases h4 : room ≤ (l.length : Int) ∧ mayB [0, 0, 0, 0] f = false
        · obtain ⟨e, e2⟩ := takeA_full h1 h2 h3 h4.1 h4.2
          rw [e, e2]
          exact ⟨by omega, by rw [h1]; rfl, .inr ⟨by omega, rfl⟩, fun _ => h4, fun h => h⟩
        · obtain ⟨e, e2⟩ := takeA_kept h1 h2 h3 h4
          rw [e, e2]
          refine ⟨by omega, by rw [h1]; rfl, .inl ⟨rfl, by simp⟩, fun h => absurd h (by omega), fun h => ?_⟩
          have h5 : farN (l ++ [f]) = farN l + (if mayB [0, 0, 0, 0] f = true then 0 else 1) := by
            unfold farN
            cases hm : mayB [0, 0, 0, 0] f <;> simp [hm]
          have h6 := farN_le l
          cases hm : mayB [0, 0, 0, 0] f
          · rw [hm] at h5 h4
            simp only [and_true] at h4
            simp at h5
            omega
          · rw [hm] at h5
            simp at h5
            omega
      · have e : takeA room l f [0, 0, 0, 0] = 3 := by unfold takeA; rw [if_neg (by simp [h1]), if_neg (by simp [h2]), if_pos h3]
        have e2 : takeI room l f [0, 0, 0, 0] = l := by unfold takeI; rw [e]; rfl
        rw [e, e2]
        exact ⟨by omega, by rw [h1]; rfl, .inr ⟨by omega, rfl⟩, fun h => absurd h (by omega), fun h => h⟩
    · obtain ⟨e, e2⟩ := takeA_cov (room := room) (l := l) h1 h2
      rw [e, e2]
      exact ⟨by omega, by rw [h1]; rfl, .inr ⟨by omega, rfl⟩, fun h => absurd h (by omega), fun h => h⟩
theorem newOi (room : Int) (h0 : 0 ≤ room) (W w : World) (B : Nat) (b : Below B W w) (hB : B ≤ W.heap.size) :
    Calls Try.prog 11 #[.int .i64 room] w fun e w' => e = .returned (.pointer (some ⟨w.heap.size, 0, none⟩)) ∧ OSt W B w.heap.size room w' [] [] none 0 := by
  refine (newP room w).mono ?_
  rintro e w' ⟨rfl, h1, b1⟩
  rw [Int.max_eq_left h0] at h1
  have := b.size
  exact ⟨rfl, _, w, h1, fun i hi => by omega, by omega, b, Sl.nil _ _ _, fun g off hn e => by cases e⟩
/-- A vector written down. -/
theorem OSt.lit {W wr : World} {B p : Nat} {room : Int} {l : List Fa} {v : List Int} {Av : Option Addr} {nv : Nat} (h : OSt W B p room wr l v Av nv) (hB : B ≤ W.heap.size) (v' : List Int) (n : Nat) (hn : v'.length = n) :
    OSt W B p room (wr.alloc (.cells (v'.map (Value.int .i64)).toArray 2)) l v' (some ⟨wr.heap.size, 0, none⟩) n := by
  have b : Below wr.heap.size wr (wr.alloc (.cells (v'.map (Value.int .i64)).toArray 2)) := (Below.refl _ _).alloc (Nat.le_refl _) _
  have hs : SlI (wr.alloc (.cells (v'.map (Value.int .i64)).toArray 2)) (some ⟨wr.heap.size, 0, none⟩) n v' := sl_lit wr _ _ wr.heap.size n 1 _ rfl rfl (by simp [hn])
  have hb := h.below_
  obtain ⟨K, w0, h1, h2, h3, h4, h5, h6⟩ := h
  have h7 := h1.fr.size
  refine ⟨fun i => K i ∨ i = wr.heap.size, _, h1.over b (fun i hi => hi.elim .inl (fun e => .inr ⟨by omega, by rw [e]; simp⟩)), fun i hi => .inl (h2 i hi), by have := b.size; omega, hb.trans (b.mono (by omega)), hs, fun g off _ e => ?_⟩
  injection e with e
  injection e with e
  exact .inr e.symm
set_option maxHeartbeats 8000000 in
set_option maxRecDepth 100000 in
theorem inboxRoom_walk (a0 : Int) (a1 : Option Addr) (len0 cap0 : Nat) (x0 : List farSh.T) (W : World)
    (wf0 : (Lit.int .u8 a0).wf = true) (t0 : Rd W (.sl 80 farSh) [.slice a1 len0 cap0] x0) :
    Calls Try.prog 5 #[.int .u8 a0, .slice a1 len0 cap0] W fun e w' => e = .returned (.bool true) ∧ Below W.heap.size W w' := by
  obtain ⟨hl0, hl80, hfar⟩ := fars_open t0
  have HT := Lib.hid (fun (w' : World) (b : Below W.heap.size W w') => And.intro (fars_open (t0.below b)).2.2 b)
  have HX := Lib.hid hl0
  obtain ⟨xs, hxs⟩ : ∃ xs, x0.map faOf = xs := ⟨_, rfl⟩
  rw [hxs] at HT HX
  clear t0 hl0 hfar hxs
  have hw0 : 0 ≤ a0 ∧ a0 ≤ 255 := bounds_u8 wf0
  obtain ⟨cc, rfl⟩ := Int.eq_ofNat_of_zero_le hw0.1
  have hcc : cc < 256 := by omega
  clear hw0 wf0
  obtain ⟨room, hroom⟩ : ∃ room : Int, (cc : Int) % 8 = room := ⟨_, rfl⟩
  have hr8 : 0 ≤ room ∧ room < 8 := by omega
  obtain ⟨hr0, hr7⟩ := hr8
  have HR := Lib.hid hroom
  clear hroom
  have C0 := Lib.hid (awake_any W)
  go_enter Try.func5, Try.ntmps5
  go_wp2_with fail
  refine C0.out.mono ?_
  rintro e w1 ⟨rfl, bw1⟩
  have C2 := Lib.hid (newOi room hr0 W w1 W.heap.size bw1 (Nat.le_refl _))
  obtain ⟨p, hp⟩ : ∃ p, w1.heap.size = p := ⟨_, rfl⟩
  rw [hp] at C2
  clear bw1 C0 hp
  go_wp2_with fail
  rw [HR.out]
  refine C2.out.mono ?_
  rintro e w3 ⟨rfl, h3⟩
  have h4 := h3.lit (Nat.le_refl _) [0, 0, 0, 0] 4 rfl
  obtain ⟨q, hq⟩ : ∃ q, w3.heap.size = q := ⟨_, rfl⟩
  rw [hq] at h4
  have H4 := Lib.hid h4
  have HQ := Lib.hid hq
  clear h3 h4 C2 hq
  go_wp2_with fail
  rw [HQ.out]
  go_loopw [8] (fun t8 wr => ∃ (i : Nat) (l : List Fa), t8 = .int .i64 (i : Int) ∧ i ≤ len0 ∧ l.length ≤ i ∧ Hid (OSt W W.heap.size p room wr l [0, 0, 0, 0] (some ⟨q, 0, none⟩) 4) ∧ Hid ((farN l : Int) ≤ room)) (fun t8 _ => len0 - (intOf t8).toNat)
  case atStart => exact ⟨0, [], rfl, Nat.zero_le _, Nat.le_refl _, H4, hr0⟩
  case round =>
    obtain ⟨i, l, rfl, hi, hli, HO, HN⟩ := hrel
    by_cases hlt : i < len0
    · have CW := Lib.hid (waitsO HO.out (by omega))
      go_wp2_with fail
      refine CW.out.mono ?_
      rintro e w4 ⟨A4, n4, c4, rows4, rfl, hw⟩
      obtain ⟨hn4, -⟩ := hw.len (Nat.le_refl _)
      subst hn4
      have H4 := Lib.hid (HO.out.grow hw.below)
      clear hw CW HO
      obtain ⟨g, off, f, A1, n1, c1, A2, n2, c2, rfl, hxf, hc, hfv, -⟩ := (HT.out _ H4.out.below_).1 i hlt
      have y0 : w4.cell? ⟨g, off + i * 5, none⟩ = some (.int .i64 f.src) := hc 0 _ (by omega) rfl
      have y1 := hc 1 _ (by omega) rfl
      have y2 := hc 2 _ (by omega) rfl
      have y3 := hc 3 _ (by omega) rfl
      have y4 := hc 4 _ (by omega) rfl
      have i1 : (0 : Int) ≤ (i : Int) := by omega
      have i2 : (i : Int) < (len0 : Int) := by omega
      have CT := Lib.hid (takeO f A1 n1 c1 A2 n2 c2 4 H4.out hfv (by omega) (by omega))
      have TK := took room l f
      have HXF := Lib.hid hxf
      have hll := takeI_len room l f [0, 0, 0, 0]
      obtain ⟨t, ht⟩ : ∃ t, takeA room l f [0, 0, 0, 0] = t := ⟨_, rfl⟩
      obtain ⟨l', hl'⟩ : ∃ l', takeI room l f [0, 0, 0, 0] = l' := ⟨_, rfl⟩
      rw [hl', ht] at CT TK
      rw [hl'] at hll
      have HF := Lib.hid (TK.few HN.out)
      have HBAD := Lib.hid TK.bad
      have HFULL := Lib.hid TK.full
      have hkk := TK.kept
      have hans := TK.ans
      clear hxf hc hfv hl' ht TK HN
      go_wp2_with fail
      refine CT.out.mono ?_
      rintro e w5 ⟨rfl, h5⟩
      have H5 := Lib.hid h5
      have hlen' : l'.length ≤ i + 1 := by omega
      clear h5 CT y0 y1 y2 y3 y4 H4 hll i1 i2
      rcases hans with rfl | rfl | rfl | rfl | rfl
      · have hkl : l'.length = l.length := by omega
        have q1 : ((l'.length : Int) == (l.length : Int) + 1) = false := beq_eq_false_iff_ne.2 (by omega)
        have q2 : ((l'.length : Int) != (l.length : Int)) = false := bne_eq_false_iff_eq.2 (by omega)
        clear hkk hkl HFULL
        have CW2 := Lib.hid (waitsO H5.out (by omega))
        go_wp2_with fail
        refine CW2.out.mono ?_
        rintro e w6 ⟨A6, n6, c6, rows, rfl, hw⟩
        obtain ⟨hn6, hrl⟩ := hw.len (Nat.le_refl _)
        subst hn6
        have HW := Lib.hid hw
        have H6 := Lib.hid (H5.out.grow hw.below)
        have HRL := Lib.hid hrl
        clear hw hrl CW2
        obtain ⟨g, off, f', A1', n1', c1', A2', n2', c2', hgg, hxf', hc', hfv', -⟩ := (HT.out _ H6.out.below_).1 i hlt
        obtain rfl : f = f' := by rw [HXF.out] at hxf'; exact Option.some.inj hxf'
        injection hgg with hgg
        injection hgg with hg1 hg2
        subst hg1 hg2
        have y0 : w6.cell? ⟨g, off + i * 5, none⟩ = some (.int .i64 f.src) := hc' 0 _ (by omega) rfl
        have y1 := hc' 1 _ (by omega) rfl
        have y2 := hc' 2 _ (by omega) rfl
        have y3 := hc' 3 _ (by omega) rfl
        have y4 := hc' 4 _ (by omega) rfl
        have CRT := Lib.hid (rightL_any w6 f A1' n1' c1' (.slice A2' n2' c2') hfv'.rc)
        rw [HBAD.out] at CRT
        clear hxf' hc' hfv'
        go_wp2_with fail
        refine CRT.out.mono ?_
        rintro e w7 ⟨rfl, b7⟩
        have H7 := Lib.hid (H6.out.grow b7)
        have HB7 := Lib.hid b7
        clear b7 CRT y0 y1 y2 y3 y4
        go_wp2_with fail
        go_loopw [13, 14] (fun t13 t14 wr => ∃ (k : Nat), t13 = .int .i64 (farN (l'.take k) : Int) ∧ t14 = .int .i64 (k : Int) ∧ k ≤ l'.length ∧ Hid (Below w7.heap.size w7 wr)) (fun _ t14 _ => l'.length - (intOf t14).toNat)
        case atStart => exact ⟨0, rfl, rfl, Nat.zero_le _, Below.refl _ _⟩
        case round =>
          obtain ⟨k, rfl, rfl, hk, HB⟩ := hrel
          have hfar := farN_le (l'.take k)
          rw [List.length_take] at hfar
          by_cases hlt2 : k < l'.length
          · obtain ⟨y, hy⟩ : ∃ y, rows[k]? = some y := ⟨_, List.getElem?_eq_getElem (by rw [HRL.out]; exact hlt2)⟩
            have hyl : l'[k]? = some y.1 := by
              have h1 := congrArg (fun z => z[k]?) HW.out.map
              simp only [List.getElem?_map, hy, List.take_length] at h1
              exact h1.symm
            have hfd := HW.out.fd y (List.mem_of_getElem? hy)
            obtain ⟨bq, oq, rfl, hc⟩ := far_at (Sl.of_own HW.out.own) hy
            have hB6 := HB7.out.trans (HB.out.mono HB7.out.size)
            have y0 : wr.cell? ⟨bq, oq + k * 5, none⟩ = some (.int .i64 y.1.src) := cell_up (hc 0 _ (by omega) rfl) hB6
            have y1 := cell_up (hc 1 _ (by omega) rfl) hB6
            have y2 := cell_up (hc 2 _ (by omega) rfl) hB6
            have y3 := cell_up (hc 3 _ (by omega) rfl) hB6
            have y4 := cell_up (hc 4 _ (by omega) rfl) hB6
            have CR := readyL_any wr y.1 y.2.1.1 y.2.1.2.1 y.2.1.2.2 (.slice y.2.2.1 y.2.2.2.1 y.2.2.2.2) (some ⟨q, 0, none⟩) 4 (hfd.vs.slv.below hB6) (rightF_rec hfd.right).2 (H7.out.grow HB.out).sl (fa_pos hfd.right)
            have i1 : (0 : Int) ≤ (k : Int) := by omega
            have i2 : (k : Int) < (l'.length : Int) := by omega
            cases hmm : mayB [0, 0, 0, 0] y.1
            · have HS := Lib.hid (farN_no hyl hmm)
              rw [hmm] at CR
              have CR := Lib.hid CR
              clear hy hyl hfd hc hB6 hmm
              go_wp2_with fail
              refine CR.out.mono ?_
              rintro e w8 ⟨rfl, b8⟩
              have HB8 := Lib.hid (HB.out.trans (b8.mono HB.out.size))
              clear b8 CR y0 y1 y2 y3 y4
              go_wp2
              go_roundw
              case rel => exact ⟨k + 1, by rw [HS.out]; go_num, by go_num, by omega, HB8⟩
              case measure => simp [intOf]; omega
            · have HS := Lib.hid (farN_yes hyl hmm)
              rw [hmm] at CR
              have CR := Lib.hid CR
              clear hy hyl hfd hc hB6 hmm
              go_wp2_with fail
              refine CR.out.mono ?_
              rintro e w8 ⟨rfl, b8⟩
              have HB8 := Lib.hid (HB.out.trans (b8.mono HB.out.size))
              clear b8 CR y0 y1 y2 y3 y4
              go_wp2
              go_roundw
              case rel => exact ⟨k + 1, by rw [HS.out], by go_num, by omega, HB8⟩
              case measure => simp [intOf]; omega
          · obtain rfl : k = l'.length := by omega
            have H8 := Lib.hid (H7.out.grow HB.out)
            rw [List.take_length] at hfar ⊢
            have i1 : (0 : Int) ≤ (i : Int) := by omega
            have i2 : (i : Int) < (len0 : Int) := by omega
            have i3 : ¬ room < (farN l' : Int) := by have := HF.out; omega
            have HE := H8
            go_wp2
            go_roundw
            case rel => exact ⟨i + 1, l', by go_num, by omega, hlen', HE.out, HF⟩
            case measure => simp [intOf]; omega
      · have hkl : l'.length = l.length := by omega
        have q1 : ((l'.length : Int) == (l.length : Int) + 1) = false := beq_eq_false_iff_ne.2 (by omega)
        have q2 : ((l'.length : Int) != (l.length : Int)) = false := bne_eq_false_iff_eq.2 (by omega)
        clear hkk hkl HFULL
        have CW2 := Lib.hid (waitsO H5.out (by omega))
        go_wp2_with fail
        refine CW2.out.mono ?_
        rintro e w6 ⟨A6, n6, c6, rows, rfl, hw⟩
        obtain ⟨hn6, hrl⟩ := hw.len (Nat.le_refl _)
        subst hn6
        have HW := Lib.hid hw
        have H6 := Lib.hid (H5.out.grow hw.below)
        have HRL := Lib.hid hrl
        clear hw hrl CW2
        obtain ⟨g, off, f', A1', n1', c1', A2', n2', c2', hgg, hxf', hc', hfv', -⟩ := (HT.out _ H6.out.below_).1 i hlt
        obtain rfl : f = f' := by rw [HXF.out] at hxf'; exact Option.some.inj hxf'
        injection hgg with hgg
        injection hgg with hg1 hg2
        subst hg1 hg2
        have y0 : w6.cell? ⟨g, off + i * 5, none⟩ = some (.int .i64 f.src) := hc' 0 _ (by omega) rfl
        have y1 := hc' 1 _ (by omega) rfl
        have y2 := hc' 2 _ (by omega) rfl
        have y3 := hc' 3 _ (by omega) rfl
        have y4 := hc' 4 _ (by omega) rfl
        have CRT := Lib.hid (rightL_any w6 f A1' n1' c1' (.slice A2' n2' c2') hfv'.rc)
        rw [HBAD.out] at CRT
        clear hxf' hc' hfv'
        go_wp2_with fail
        refine CRT.out.mono ?_
        rintro e w7 ⟨rfl, b7⟩
        have H7 := Lib.hid (H6.out.grow b7)
        have HB7 := Lib.hid b7
        clear b7 CRT y0 y1 y2 y3 y4
        go_wp2_with fail
        go_loopw [13, 14] (fun t13 t14 wr => ∃ (k : Nat), t13 = .int .i64 (farN (l'.take k) : Int) ∧ t14 = .int .i64 (k : Int) ∧ k ≤ l'.length ∧ Hid (Below w7.heap.size w7 wr)) (fun _ t14 _ => l'.length - (intOf t14).toNat)
        case atStart => exact ⟨0, rfl, rfl, Nat.zero_le _, Below.refl _ _⟩
        case round =>
          obtain ⟨k, rfl, rfl, hk, HB⟩ := hrel
          have hfar := farN_le (l'.take k)
          rw [List.length_take] at hfar
          by_cases hlt2 : k < l'.length
          · obtain ⟨y, hy⟩ : ∃ y, rows[k]? = some y := ⟨_, List.getElem?_eq_getElem (by rw [HRL.out]; exact hlt2)⟩
            have hyl : l'[k]? = some y.1 := by
              have h1 := congrArg (fun z => z[k]?) HW.out.map
              simp only [List.getElem?_map, hy, List.take_length] at h1
              exact h1.symm
            have hfd := HW.out.fd y (List.mem_of_getElem? hy)
            obtain ⟨bq, oq, rfl, hc⟩ := far_at (Sl.of_own HW.out.own) hy
            have hB6 := HB7.out.trans (HB.out.mono HB7.out.size)
            have y0 : wr.cell? ⟨bq, oq + k * 5, none⟩ = some (.int .i64 y.1.src) := cell_up (hc 0 _ (by omega) rfl) hB6
            have y1 := cell_up (hc 1 _ (by omega) rfl) hB6
            have y2 := cell_up (hc 2 _ (by omega) rfl) hB6
            have y3 := cell_up (hc 3 _ (by omega) rfl) hB6
            have y4 := cell_up (hc 4 _ (by omega) rfl) hB6
            have CR := readyL_any wr y.1 y.2.1.1 y.2.1.2.1 y.2.1.2.2 (.slice y.2.2.1 y.2.2.2.1 y.2.2.2.2) (some ⟨q, 0, none⟩) 4 (hfd.vs.slv.below hB6) (rightF_rec hfd.right).2 (H7.out.grow HB.out).sl (fa_pos hfd.right)
            have i1 : (0 : Int) ≤ (k : Int) := by omega
            have i2 : (k : Int) < (l'.length : Int) := by omega
            cases hmm : mayB [0, 0, 0, 0] y.1
            · have HS := Lib.hid (farN_no hyl hmm)
              rw [hmm] at CR
              have CR := Lib.hid CR
              clear hy hyl hfd hc hB6 hmm
              go_wp2_with fail
              refine CR.out.mono ?_
              rintro e w8 ⟨rfl, b8⟩
              have HB8 := Lib.hid (HB.out.trans (b8.mono HB.out.size))
              clear b8 CR y0 y1 y2 y3 y4
              go_wp2
              go_roundw
              case rel => exact ⟨k + 1, by rw [HS.out]; go_num, by go_num, by omega, HB8⟩
              case measure => simp [intOf]; omega
            · have HS := Lib.hid (farN_yes hyl hmm)
              rw [hmm] at CR
              have CR := Lib.hid CR
              clear hy hyl hfd hc hB6 hmm
              go_wp2_with fail
              refine CR.out.mono ?_
              rintro e w8 ⟨rfl, b8⟩
              have HB8 := Lib.hid (HB.out.trans (b8.mono HB.out.size))
              clear b8 CR y0 y1 y2 y3 y4
              go_wp2
              go_roundw
              case rel => exact ⟨k + 1, by rw [HS.out], by go_num, by omega, HB8⟩
              case measure => simp [intOf]; omega
          · obtain rfl : k = l'.length := by omega
            have H8 := Lib.hid (H7.out.grow HB.out)
            rw [List.take_length] at hfar ⊢
            have i1 : (0 : Int) ≤ (i : Int) := by omega
            have i2 : (i : Int) < (len0 : Int) := by omega
            have i3 : ¬ room < (farN l' : Int) := by have := HF.out; omega
            have HE := H8
            go_wp2
            go_roundw
            case rel => exact ⟨i + 1, l', by go_num, by omega, hlen', HE.out, HF⟩
            case measure => simp [intOf]; omega
      · have hkl : l'.length = l.length + 1 := by omega
        have q1 : ((l'.length : Int) == (l.length : Int) + 1) = true := beq_iff_eq.2 (by omega)
        clear hkk hkl HFULL
        have CW2 := Lib.hid (waitsO H5.out (by omega))
        go_wp2_with fail
        refine CW2.out.mono ?_
        rintro e w6 ⟨A6, n6, c6, rows, rfl, hw⟩
        obtain ⟨hn6, hrl⟩ := hw.len (Nat.le_refl _)
        subst hn6
        have HW := Lib.hid hw
        have H6 := Lib.hid (H5.out.grow hw.below)
        have HRL := Lib.hid hrl
        clear hw hrl CW2
        obtain ⟨g, off, f', A1', n1', c1', A2', n2', c2', hgg, hxf', hc', hfv', -⟩ := (HT.out _ H6.out.below_).1 i hlt
        obtain rfl : f = f' := by rw [HXF.out] at hxf'; exact Option.some.inj hxf'
        injection hgg with hgg
        injection hgg with hg1 hg2
        subst hg1 hg2
        have y0 : w6.cell? ⟨g, off + i * 5, none⟩ = some (.int .i64 f.src) := hc' 0 _ (by omega) rfl
        have y1 := hc' 1 _ (by omega) rfl
        have y2 := hc' 2 _ (by omega) rfl
        have y3 := hc' 3 _ (by omega) rfl
        have y4 := hc' 4 _ (by omega) rfl
        have CRT := Lib.hid (rightL_any w6 f A1' n1' c1' (.slice A2' n2' c2') hfv'.rc)
        rw [HBAD.out] at CRT
        clear hxf' hc' hfv'
        go_wp2_with fail
        refine CRT.out.mono ?_
        rintro e w7 ⟨rfl, b7⟩
        have H7 := Lib.hid (H6.out.grow b7)
        have HB7 := Lib.hid b7
        clear b7 CRT y0 y1 y2 y3 y4
        go_wp2_with fail
        go_loopw [13, 14] (fun t13 t14 wr => ∃ (k : Nat), t13 = .int .i64 (farN (l'.take k) : Int) ∧ t14 = .int .i64 (k : Int) ∧ k ≤ l'.length ∧ Hid (Below w7.heap.size w7 wr)) (fun _ t14 _ => l'.length - (intOf t14).toNat)
        case atStart => exact ⟨0, rfl, rfl, Nat.zero_le _, Below.refl _ _⟩
        case round =>
          obtain ⟨k, rfl, rfl, hk, HB⟩ := hrel
          have hfar := farN_le (l'.take k)
          rw [List.length_take] at hfar
          by_cases hlt2 : k < l'.length
          · obtain ⟨y, hy⟩ : ∃ y, rows[k]? = some y := ⟨_, List.getElem?_eq_getElem (by rw [HRL.out]; exact hlt2)⟩
            have hyl : l'[k]? = some y.1 := by
              have h1 := congrArg (fun z => z[k]?) HW.out.map
              simp only [List.getElem?_map, hy, List.take_length] at h1
              exact h1.symm
            have hfd := HW.out.fd y (List.mem_of_getElem? hy)
            obtain ⟨bq, oq, rfl, hc⟩ := far_at (Sl.of_own HW.out.own) hy
            have hB6 := HB7.out.trans (HB.out.mono HB7.out.size)
            have y0 : wr.cell? ⟨bq, oq + k * 5, none⟩ = some (.int .i64 y.1.src) := cell_up (hc 0 _ (by omega) rfl) hB6
            have y1 := cell_up (hc 1 _ (by omega) rfl) hB6
            have y2 := cell_up (hc 2 _ (by omega) rfl) hB6
            have y3 := cell_up (hc 3 _ (by omega) rfl) hB6
            have y4 := cell_up (hc 4 _ (by omega) rfl) hB6
            have CR := readyL_any wr y.1 y.2.1.1 y.2.1.2.1 y.2.1.2.2 (.slice y.2.2.1 y.2.2.2.1 y.2.2.2.2) (some ⟨q, 0, none⟩) 4 (hfd.vs.slv.below hB6) (rightF_rec hfd.right).2 (H7.out.grow HB.out).sl (fa_pos hfd.right)
            have i1 : (0 : Int) ≤ (k : Int) := by omega
            have i2 : (k : Int) < (l'.length : Int) := by omega
            cases hmm : mayB [0, 0, 0, 0] y.1
            · have HS := Lib.hid (farN_no hyl hmm)
              rw [hmm] at CR
              have CR := Lib.hid CR
              clear hy hyl hfd hc hB6 hmm
              go_wp2_with fail
              refine CR.out.mono ?_
              rintro e w8 ⟨rfl, b8⟩
              have HB8 := Lib.hid (HB.out.trans (b8.mono HB.out.size))
              clear b8 CR y0 y1 y2 y3 y4
              go_wp2
              go_roundw
              case rel => exact ⟨k + 1, by rw [HS.out]; go_num, by go_num, by omega, HB8⟩
              case measure => simp [intOf]; omega
            · have HS := Lib.hid (farN_yes hyl hmm)
              rw [hmm] at CR
              have CR := Lib.hid CR
              clear hy hyl hfd hc hB6 hmm
              go_wp2_with fail
              refine CR.out.mono ?_
              rintro e w8 ⟨rfl, b8⟩
              have HB8 := Lib.hid (HB.out.trans (b8.mono HB.out.size))
              clear b8 CR y0 y1 y2 y3 y4
              go_wp2
              go_roundw
              case rel => exact ⟨k + 1, by rw [HS.out], by go_num, by omega, HB8⟩
              case measure => simp [intOf]; omega
          · obtain rfl : k = l'.length := by omega
            have H8 := Lib.hid (H7.out.grow HB.out)
            rw [List.take_length] at hfar ⊢
            have i1 : (0 : Int) ≤ (i : Int) := by omega
            have i2 : (i : Int) < (len0 : Int) := by omega
            have i3 : ¬ room < (farN l' : Int) := by have := HF.out; omega
            have HE := H8
            go_wp2
            go_roundw
            case rel => exact ⟨i + 1, l', by go_num, by omega, hlen', HE.out, HF⟩
            case measure => simp [intOf]; omega
      · have hkl : l'.length = l.length := by omega
        have q1 : ((l'.length : Int) == (l.length : Int) + 1) = false := beq_eq_false_iff_ne.2 (by omega)
        have q2 : ((l'.length : Int) != (l.length : Int)) = false := bne_eq_false_iff_eq.2 (by omega)
        clear hkk hkl HFULL
        have CW2 := Lib.hid (waitsO H5.out (by omega))
        go_wp2_with fail
        refine CW2.out.mono ?_
        rintro e w6 ⟨A6, n6, c6, rows, rfl, hw⟩
        obtain ⟨hn6, hrl⟩ := hw.len (Nat.le_refl _)
        subst hn6
        have HW := Lib.hid hw
        have H6 := Lib.hid (H5.out.grow hw.below)
        have HRL := Lib.hid hrl
        clear hw hrl CW2
        obtain ⟨g, off, f', A1', n1', c1', A2', n2', c2', hgg, hxf', hc', hfv', -⟩ := (HT.out _ H6.out.below_).1 i hlt
        obtain rfl : f = f' := by rw [HXF.out] at hxf'; exact Option.some.inj hxf'
        injection hgg with hgg
        injection hgg with hg1 hg2
        subst hg1 hg2
        have y0 : w6.cell? ⟨g, off + i * 5, none⟩ = some (.int .i64 f.src) := hc' 0 _ (by omega) rfl
        have y1 := hc' 1 _ (by omega) rfl
        have y2 := hc' 2 _ (by omega) rfl
        have y3 := hc' 3 _ (by omega) rfl
        have y4 := hc' 4 _ (by omega) rfl
        have CRT := Lib.hid (rightL_any w6 f A1' n1' c1' (.slice A2' n2' c2') hfv'.rc)
        rw [HBAD.out] at CRT
        clear hxf' hc' hfv'
        go_wp2_with fail
        refine CRT.out.mono ?_
        rintro e w7 ⟨rfl, b7⟩
        have H7 := Lib.hid (H6.out.grow b7)
        have HB7 := Lib.hid b7
        clear b7 CRT y0 y1 y2 y3 y4
        go_wp2_with fail
        go_loopw [13, 14] (fun t13 t14 wr => ∃ (k : Nat), t13 = .int .i64 (farN (l'.take k) : Int) ∧ t14 = .int .i64 (k : Int) ∧ k ≤ l'.length ∧ Hid (Below w7.heap.size w7 wr)) (fun _ t14 _ => l'.length - (intOf t14).toNat)
        case atStart => exact ⟨0, rfl, rfl, Nat.zero_le _, Below.refl _ _⟩
        case round =>
          obtain ⟨k, rfl, rfl, hk, HB⟩ := hrel
          have hfar := farN_le (l'.take k)
          rw [List.length_take] at hfar
          by_cases hlt2 : k < l'.length
          · obtain ⟨y, hy⟩ : ∃ y, rows[k]? = some y := ⟨_, List.getElem?_eq_getElem (by rw [HRL.out]; exact hlt2)⟩
            have hyl : l'[k]? = some y.1 := by
              have h1 := congrArg (fun z => z[k]?) HW.out.map
              simp only [List.getElem?_map, hy, List.take_length] at h1
              exact h1.symm
            have hfd := HW.out.fd y (List.mem_of_getElem? hy)
            obtain ⟨bq, oq, rfl, hc⟩ := far_at (Sl.of_own HW.out.own) hy
            have hB6 := HB7.out.trans (HB.out.mono HB7.out.size)
            have y0 : wr.cell? ⟨bq, oq + k * 5, none⟩ = some (.int .i64 y.1.src) := cell_up (hc 0 _ (by omega) rfl) hB6
            have y1 := cell_up (hc 1 _ (by omega) rfl) hB6
            have y2 := cell_up (hc 2 _ (by omega) rfl) hB6
            have y3 := cell_up (hc 3 _ (by omega) rfl) hB6
            have y4 := cell_up (hc 4 _ (by omega) rfl) hB6
            have CR := readyL_any wr y.1 y.2.1.1 y.2.1.2.1 y.2.1.2.2 (.slice y.2.2.1 y.2.2.2.1 y.2.2.2.2) (some ⟨q, 0, none⟩) 4 (hfd.vs.slv.below hB6) (rightF_rec hfd.right).2 (H7.out.grow HB.out).sl (fa_pos hfd.right)
            have i1 : (0 : Int) ≤ (k : Int) := by omega
            have i2 : (k : Int) < (l'.length : Int) := by omega
            cases hmm : mayB [0, 0, 0, 0] y.1
            · have HS := Lib.hid (farN_no hyl hmm)
              rw [hmm] at CR
              have CR := Lib.hid CR
              clear hy hyl hfd hc hB6 hmm
              go_wp2_with fail
              refine CR.out.mono ?_
              rintro e w8 ⟨rfl, b8⟩
              have HB8 := Lib.hid (HB.out.trans (b8.mono HB.out.size))
              clear b8 CR y0 y1 y2 y3 y4
              go_wp2
              go_roundw
              case rel => exact ⟨k + 1, by rw [HS.out]; go_num, by go_num, by omega, HB8⟩
              case measure => simp [intOf]; omega
            · have HS := Lib.hid (farN_yes hyl hmm)
              rw [hmm] at CR
              have CR := Lib.hid CR
              clear hy hyl hfd hc hB6 hmm
              go_wp2_with fail
              refine CR.out.mono ?_
              rintro e w8 ⟨rfl, b8⟩
              have HB8 := Lib.hid (HB.out.trans (b8.mono HB.out.size))
              clear b8 CR y0 y1 y2 y3 y4
              go_wp2
              go_roundw
              case rel => exact ⟨k + 1, by rw [HS.out], by go_num, by omega, HB8⟩
              case measure => simp [intOf]; omega
          · obtain rfl : k = l'.length := by omega
            have H8 := Lib.hid (H7.out.grow HB.out)
            rw [List.take_length] at hfar ⊢
            have i1 : (0 : Int) ≤ (i : Int) := by omega
            have i2 : (i : Int) < (len0 : Int) := by omega
            have i3 : ¬ room < (farN l' : Int) := by have := HF.out; omega
            have HE := H8
            go_wp2
            go_roundw
            case rel => exact ⟨i + 1, l', by go_num, by omega, hlen', HE.out, HF⟩
            case measure => simp [intOf]; omega
      · have hkl : l'.length = l.length := by omega
        have q1 : ((l'.length : Int) == (l.length : Int) + 1) = false := beq_eq_false_iff_ne.2 (by omega)
        have q2 : ((l'.length : Int) != (l.length : Int)) = false := bne_eq_false_iff_eq.2 (by omega)
        have i0 := (HFULL.out rfl).1
        have i4 : ¬ (l.length : Int) < room := by omega
        have HFL := Lib.hid (HFULL.out rfl)
        clear hkk hkl i0
        have CW2 := Lib.hid (waitsO H5.out (by omega))
        go_wp2_with fail
        refine CW2.out.mono ?_
        rintro e w6 ⟨A6, n6, c6, rows, rfl, hw⟩
        obtain ⟨hn6, hrl⟩ := hw.len (Nat.le_refl _)
        subst hn6
        have HW := Lib.hid hw
        have H6 := Lib.hid (H5.out.grow hw.below)
        have HRL := Lib.hid hrl
        clear hw hrl CW2
        obtain ⟨g, off, f', A1', n1', c1', A2', n2', c2', hgg, hxf', hc', hfv', -⟩ := (HT.out _ H6.out.below_).1 i hlt
        obtain rfl : f = f' := by rw [HXF.out] at hxf'; exact Option.some.inj hxf'
        injection hgg with hgg
        injection hgg with hg1 hg2
        subst hg1 hg2
        have y0 : w6.cell? ⟨g, off + i * 5, none⟩ = some (.int .i64 f.src) := hc' 0 _ (by omega) rfl
        have y1 := hc' 1 _ (by omega) rfl
        have y2 := hc' 2 _ (by omega) rfl
        have y3 := hc' 3 _ (by omega) rfl
        have y4 := hc' 4 _ (by omega) rfl
        have CRT := Lib.hid (rightL_any w6 f A1' n1' c1' (.slice A2' n2' c2') hfv'.rc)
        rw [HBAD.out] at CRT
        clear hxf' hc' hfv'
        go_wp2_with fail
        refine CRT.out.mono ?_
        rintro e w7 ⟨rfl, b7⟩
        have H7 := Lib.hid (H6.out.grow b7)
        have HB7 := Lib.hid b7
        clear b7 CRT y0 y1 y2 y3 y4
        go_wp2_with fail
        go_loopw [13, 14] (fun t13 t14 wr => ∃ (k : Nat), t13 = .int .i64 (farN (l'.take k) : Int) ∧ t14 = .int .i64 (k : Int) ∧ k ≤ l'.length ∧ Hid (Below w7.heap.size w7 wr)) (fun _ t14 _ => l'.length - (intOf t14).toNat)
        case atStart => exact ⟨0, rfl, rfl, Nat.zero_le _, Below.refl _ _⟩
        case round =>
          obtain ⟨k, rfl, rfl, hk, HB⟩ := hrel
          have hfar := farN_le (l'.take k)
          rw [List.length_take] at hfar
          by_cases hlt2 : k < l'.length
          · obtain ⟨y, hy⟩ : ∃ y, rows[k]? = some y := ⟨_, List.getElem?_eq_getElem (by rw [HRL.out]; exact hlt2)⟩
            have hyl : l'[k]? = some y.1 := by
              have h1 := congrArg (fun z => z[k]?) HW.out.map
              simp only [List.getElem?_map, hy, List.take_length] at h1
              exact h1.symm
            have hfd := HW.out.fd y (List.mem_of_getElem? hy)
            obtain ⟨bq, oq, rfl, hc⟩ := far_at (Sl.of_own HW.out.own) hy
            have hB6 := HB7.out.trans (HB.out.mono HB7.out.size)
            have y0 : wr.cell? ⟨bq, oq + k * 5, none⟩ = some (.int .i64 y.1.src) := cell_up (hc 0 _ (by omega) rfl) hB6
            have y1 := cell_up (hc 1 _ (by omega) rfl) hB6
            have y2 := cell_up (hc 2 _ (by omega) rfl) hB6
            have y3 := cell_up (hc 3 _ (by omega) rfl) hB6
            have y4 := cell_up (hc 4 _ (by omega) rfl) hB6
            have CR := readyL_any wr y.1 y.2.1.1 y.2.1.2.1 y.2.1.2.2 (.slice y.2.2.1 y.2.2.2.1 y.2.2.2.2) (some ⟨q, 0, none⟩) 4 (hfd.vs.slv.below hB6) (rightF_rec hfd.right).2 (H7.out.grow HB.out).sl (fa_pos hfd.right)
            have i1 : (0 : Int) ≤ (k : Int) := by omega
            have i2 : (k : Int) < (l'.length : Int) := by omega
            cases hmm : mayB [0, 0, 0, 0] y.1
            · have HS := Lib.hid (farN_no hyl hmm)
              rw [hmm] at CR
              have CR := Lib.hid CR
              clear hy hyl hfd hc hB6 hmm
              go_wp2_with fail
              refine CR.out.mono ?_
              rintro e w8 ⟨rfl, b8⟩
              have HB8 := Lib.hid (HB.out.trans (b8.mono HB.out.size))
              clear b8 CR y0 y1 y2 y3 y4
              go_wp2
              go_roundw
              case rel => exact ⟨k + 1, by rw [HS.out]; go_num, by go_num, by omega, HB8⟩
              case measure => simp [intOf]; omega
            · have HS := Lib.hid (farN_yes hyl hmm)
              rw [hmm] at CR
              have CR := Lib.hid CR
              clear hy hyl hfd hc hB6 hmm
              go_wp2_with fail
              refine CR.out.mono ?_
              rintro e w8 ⟨rfl, b8⟩
              have HB8 := Lib.hid (HB.out.trans (b8.mono HB.out.size))
              clear b8 CR y0 y1 y2 y3 y4
              go_wp2
              go_roundw
              case rel => exact ⟨k + 1, by rw [HS.out], by go_num, by omega, HB8⟩
              case measure => simp [intOf]; omega
          · obtain rfl : k = l'.length := by omega
            have H8 := Lib.hid (H7.out.grow HB.out)
            rw [List.take_length] at hfar ⊢
            have i1 : (0 : Int) ≤ (i : Int) := by omega
            have i2 : (i : Int) < (len0 : Int) := by omega
            have i3 : ¬ room < (farN l' : Int) := by have := HF.out; omega
            obtain ⟨gz, oz, f2, A1', n1', c1', A2', n2', c2', hgg, hxf', hc', hfv', -⟩ := (HT.out _ H8.out.below_).1 i hlt
            obtain rfl : f = f2 := by rw [HXF.out] at hxf'; exact Option.some.inj hxf'
            injection hgg with hgg
            injection hgg with hg1 hg2
            subst hg1 hg2
            have y0 : wr.cell? ⟨g, off + i * 5, none⟩ = some (.int .i64 f.src) := hc' 0 _ (by omega) rfl
            have y1 := hc' 1 _ (by omega) rfl
            have y2 := hc' 2 _ (by omega) rfl
            have y3 := hc' 3 _ (by omega) rfl
            have y4 := hc' 4 _ (by omega) rfl
            have hrr : rightF f = true := by rw [HBAD.out]; rfl
            have CR := readyL_any wr f A1' n1' c1' (.slice A2' n2' c2') (some ⟨q, 0, none⟩) 4 hfv'.rc.sl (rightF_rec hrr).2 H8.out.sl (fa_pos hrr)
            rw [HFL.out.2] at CR
            have CR := Lib.hid CR
            clear hxf' hc' hfv' hrr
            go_wp2_with fail
            refine CR.out.mono ?_
            rintro e w9 ⟨rfl, b9⟩
            have HE := Lib.hid (H8.out.grow b9)
            clear b9 CR y0 y1 y2 y3 y4
            go_wp2
            go_roundw
            case rel => exact ⟨i + 1, l', by go_num, by omega, hlen', HE.out, HF⟩
            case measure => simp [intOf]; omega
    · obtain rfl : i = len0 := by omega
      have HE := Lib.hid HO.out.below_
      go_wp2
      go_ret
      exact ⟨rfl, HE.out⟩
end Go.Proofs.Ytilagblpamhmkaa
