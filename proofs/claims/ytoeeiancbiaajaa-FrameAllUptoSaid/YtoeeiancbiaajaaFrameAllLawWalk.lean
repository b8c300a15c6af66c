/-
  The walk of firthlaw02.FrameAll.
-/
import Derived.Test.YtoeeiancbiaajaaFrameAllPlain
namespace Go.Proofs.Ytoeeiancbiaajaa
open Go.RowKit
set_option linter.unusedVariables false

theorem Try.infoInt : (Try.prog.info? 3).map (fun i => (i.zero, i.size, i.bytes)) = some (some (.int .i64 0), 1, 8) := by kernel_rfl
def iV (l : List Int) : List Value := l.map (Value.int .i64)

theorem SlBB.take {w : World} {A : Option Addr} {n : Nat} {ls : List (List UInt8)} (h : SlBB w A n ls) {k : Nat} (hk : k ≤ n) : SlBB w A k (ls.take k) := by
  refine ⟨by rw [List.length_take, h.1]; omega, fun hn => ?_⟩
  obtain ⟨b, off, e, hc⟩ := h.2 (by omega)
  refine ⟨b, off, e, fun j l hl => hc j l ?_⟩
  rw [List.getElem?_take] at hl
  split at hl
  · exact hl
  · cases hl


set_option maxHeartbeats 2000000 in
set_option maxRecDepth 100000 in
theorem frameAll_walk (a0 : Option Addr) (len0 cap0 : Nat) (ls : List (List UInt8)) (cut : Int) (w : World) (s0 : SlBB w a0 len0 ls) (b0 : len0 ≤ cap0) (z0 : cap0 * 24 ≤ 140737488351232) (hsum : (ls.map fun x => x.length + 1).sum ≤ 1048576) (wc : (Lit.int .i64 cut).wf = true) (hcap : cap0 ≤ 1048576) :
    Calls Try.prog 9 #[.slice a0 len0 cap0, .int .i64 cut] w fun e w' => e = .returned (.bool true) ∧ Below w.heap.size w w' := by
  obtain ⟨i0, hi, hz0, hz1, hz2⟩ := info_parts Try.infoU8
  obtain ⟨j0, hji, hjz0, hjz1, hjz2⟩ := info_parts Try.infoInt
  have e0 := s0.len
  have hshort : ∀ x, x ∈ ls → x.length ≤ 1048576 := fun x hx => by have := short_of_sum hsum x hx; omega
  have hbound := putAll_bound ls
  have hB := Nat.le_trans hbound (Nat.mul_le_mul_left 13 hsum)
  go_enter Try.func9, Try.ntmps9
  go_wp2
  go_loopw [5, 6, 7] (fun bv ev i wr => ∃ k : Nat, i = .int .i64 (k : Int) ∧ k ≤ len0 ∧ wr.ownsRow w.heap.size 5 1 bv (putAll (ls.take k)).length (bsV (putAll (ls.take k))) ∧ wr.ownsRow w.heap.size 3 1 ev k (iV (endsOf (ls.take k))) ∧ Below w.heap.size w wr) (fun _ _ i _ => len0 - (intOf i).toNat)
  case atStart => exact ⟨0, rfl, Nat.zero_le _, by simpa [putAll, bsV] using World.ownsRow_nil _ _ _ _, by simpa [endsOf, iV] using World.ownsRow_nil _ _ _ _, Below.refl _ _⟩
  case round =>
    obtain ⟨k, rfl, hk, hb, he, hBel⟩ := hrel
    have y1 := hBel.size
    by_cases hlt : k < len0
    · have S := s0.below hBel
      obtain ⟨bb, off, x, Ak, nk, ck, rfl, hx, hc, sx, m1, m2⟩ := S.at_ hlt
      have hxl := sx.len
      have hxs := hshort x (List.mem_of_getElem? hx)
      have hpt := putAll_take hx
      have het := endsOf_take (ls := ls) (k := k) (by omega)
      have hpl1 := putAll_take_le ls k
      have hpl2 := putAll_take_le ls (k + 1)
      have HX := Lib.hid (And.intro hx (And.intro hpt het))
      have hpl3 : (putAll (ls.take k)).length + (putF x).length = (putAll (ls.take (k + 1))).length := by rw [hpt, List.length_append]
      clear hx S hpt het
      go_wp2_with fail
      refine (framePut_any Ak nk ck x wr sx (by omega) m1).mono ?_
      rintro e w1 ⟨A1, n1, c1, rfl, s1, p1, o1, b1⟩
      have hb1 := own_below hb b1
      have he1 := own_below he b1
      have B1 := hBel.trans (b1.mono y1)
      have y2 := B1.size
      have hn1 := s1.len
      clear hb he hBel b1 o1 sx
      go_wp2_with (at_builtin; refine wpList_append_sl _ rfl (.tmp 42) (.tmp 43) 22 rfl (w.heap.size) 5 i0 (.int .u8 0) 1 1 Try.underlying22 hi hz0 hz1 hz2 rfl (by decide) (_) ((putAll (ls.take k)).length) (bsV (putAll (ls.take k))) rfl (hb1) (A1) (n1) (c1) (bsV (putF x)) rfl (s1) (bsV_one _) (by unfold maxLen; omega) (by omega) (y2) ?_)
      intro v2 w2 own2 g2 _
      have B2 := below_grow B1 hb1 g2 y2 (Nat.le_refl _)
      have he2 := he1.kept g2 (own_ne he1 hb1 (by decide))
      have y3 := B2.size
      obtain ⟨Ab, cb, rfl, -, -⟩ := own_slice own2
      clear g2 hb1 he1 B1 s1
      go_wp2_with (at_builtin; refine wpList_append_own _ rfl _ _ 44 rfl (w.heap.size) 3 j0 (.int .i64 0) 1 8 Try.underlying44 hji hjz0 hjz1 hjz2 rfl (by decide) _ _ _ rfl (World.ownsRow.alloc he2 _) ⟨(w2).heap.size, 0, none⟩ 1 1 _ rfl rfl (cell_one_new _ _ _) (by intro u hu; simp at hu; subst hu; rfl) (by unfold maxLen; omega) (by omega) (by simp; omega) ?_)
      intro v3 w3 own3 g3 _
      have B3 := below_push B2 he2 g3 y3 (Nat.le_refl _)
      have hb3 := (World.ownsRow.alloc own2 _).kept g3 (own_ne own2 he2 (by decide))
      have R1 : w3.ownsRow w.heap.size 5 1 (.slice Ab ((putAll (ls.take k)).length + n1) cb) (putAll (ls.take (k + 1))).length (bsV (putAll (ls.take (k + 1)))) := by
        rw [HX.out.2.1, bsV_append, List.length_append, hn1]
        exact hb3
      have R2 : w3.ownsRow w.heap.size 3 1 v3 (k + 1) (iV (endsOf (ls.take (k + 1)))) := by
        rw [HX.out.2.2]
        unfold iV
        rw [List.map_append, ← hpl3, hn1]
        simpa [iV] using own3
      clear own3 g3 hb3 own2 he2 B2
      go_wp2
      go_roundw
      case rel => exact ⟨k + 1, by go_num, by omega, R1, R2, B3⟩
      case measure => simp [intOf]; omega
    · obtain rfl : k = len0 := by omega
      rw [← e0, List.take_length] at hb he
      obtain ⟨Ab, cb, rfl, hcb, -⟩ := own_slice hb
      obtain ⟨Ae, ce, rfl, hce, -⟩ := own_slice he
      have SB : SlB wr Ab (putAll ls).length (putAll ls) := Sl.of_own hb
      have SE : Sl wr Ae ls.length 1 (iV (endsOf ls)) := Sl.of_own he
      obtain ⟨xs0, E0, q0⟩ := endFr_all ls hshort
      clear hb he
      go_wp2_with fail
      refine (frameAll_any Ab _ cb (putAll ls) wr SB hcb (by omega)).mono ?_
      rintro e w1 ⟨xs, k1, er, A1, n1, c1, E1, rfl, S1, m1, B1⟩
      obtain ⟨q1, rfl, rfl⟩ := E1.same E0
      rw [q1, q0] at S1
      have B2 := hBel.trans (B1.mono y1)
      have y2 := B2.size
      have hn1 := S1.len
      have SB := Sl.below SB B1
      have SE := Sl.below SE B1
      have SL := s0.below B2
      clear E1 E0 hBel B1
      go_wp2_with fail
      refine (sameBB_any A1 a0 n1 k c1 cap0 ls ls w1 S1 SL (by omega)).mono ?_
      rintro e w2 ⟨rfl, d, hd⟩
      have SB : SlB w2 Ab (putAll ls).length (putAll ls) := by subst hd; exact Sl.drewN SB d
      have SE : Sl w2 Ae ls.length 1 (iV (endsOf ls)) := by subst hd; exact Sl.drewN SE d
      have SL : SlBB w2 a0 k ls := by subst hd; exact SlBB.drewN SL d
      have B3 : Below w.heap.size w w2 := by subst hd; exact below_drewN B2 d
      have y3 := B3.size
      have qs : (ls == ls) = true := by simp
      clear hd S1 B2 s0 q1 q0
      by_cases hcut : cut < 0 ∨ ((putAll ls).length : Int) < cut
      · go_wp2
        all_goals first
          | (go_ret; exact ⟨rfl, B3⟩)
          | (exfalso; omega)
      · obtain ⟨c, rfl⟩ : ∃ c : Nat, cut = (c : Int) := ⟨cut.toNat, by omega⟩
        have hcl : c ≤ (putAll ls).length := by omega
        have hc0 : ¬ ((c : Int) < 0) := by omega
        have hc1 : ¬ ((c : Int) > ((putAll ls).length : Int)) := by omega
        clear hcut
        go_wp2
        go_loopw [13, 14] (fun wh la wr => ∃ m : Nat, wh = .int .i64 (m : Int) ∧ m ≤ k ∧ la = .int .i64 ((putAll (ls.take m)).length : Int) ∧ (putAll (ls.take m)).length ≤ c ∧ wr = w2) (fun wh _ _ => k - (intOf wh).toNat)
        case atStart => exact ⟨0, rfl, Nat.zero_le _, by simp [putAll], by simp [putAll], rfl⟩
        case round =>
          obtain ⟨m, rfl, hm, rfl, hmc, rfl⟩ := hrel
          by_cases hlt : m < k
          · obtain ⟨bb, off, u, rfl, hu, hcell⟩ := Sl.at1 SE (k := m) (by omega)
            obtain rfl : u = .int .i64 ((putAll (ls.take (m + 1))).length : Int) := by
              unfold iV at hu
              rw [List.getElem?_map, endsOf_at (by omega)] at hu
              simpa using hu.symm
            clear hu
            by_cases hle : (putAll (ls.take (m + 1))).length ≤ c
            · have qle : decide (((putAll (ls.take (m + 1))).length : Int) ≤ (c : Int)) = true := by simp; omega
              go_wp2
              go_roundw
              case rel => exact ⟨m + 1, by go_num, by omega, rfl, hle, by trivial⟩
              case measure => simp [intOf]; omega
            · have qle : decide (((putAll (ls.take (m + 1))).length : Int) ≤ (c : Int)) = false := by simp; omega
              obtain ⟨xs0, er0, E0, q0, q1⟩ := endFr_cut ls hshort m c (by omega) hmc (fun _ => by omega) hcl
              have ST : SlB wr Ab c ((putAll ls).take c) := by
                have := Sl.take SB (k := c) (by omega)
                rwa [Nat.mul_one, bsV_take] at this
              go_wp2_with fail
              refine (frameAll_any Ab c cb ((putAll ls).take c) wr ST (by omega) (by omega)).mono ?_
              rintro e w4 ⟨xs, k1, er, A4, n4, c4, E4, rfl, S4, m4, B4⟩
              obtain ⟨t1, rfl, rfl⟩ := E4.same E0
              rw [t1, q0] at S4
              have SL4 := (SL.below B4).take (k := m) (by omega)
              have B5 := B3.trans (B4.mono y3)
              have hn4 := S4.len
              rw [List.length_take] at hn4
              have qs4 : (ls.take m == ls.take m) = true := by simp
              clear E4 E0 B4 t1 ST
              rcases q1 with ⟨rfl, hq⟩ | ⟨rfl, hq⟩
              · have q2 : (((putAll (ls.take m)).length : Int) == (c : Int)) = true := by simp [hq]
                go_wp2_with fail
                refine (sameBB_any A4 a0 n4 m c4 cap0 _ _ w4 S4 SL4 (by omega)).mono ?_
                rintro e w5 ⟨rfl, d5, rfl⟩
                go_wp2
                go_ret
                exact ⟨by simp, below_drewN B5 _⟩
              · have q2 : (((putAll (ls.take m)).length : Int) == (c : Int)) = false := by simp; omega
                go_wp2_with fail
                refine (sameBB_any A4 a0 n4 m c4 cap0 _ _ w4 S4 SL4 (by omega)).mono ?_
                rintro e w5 ⟨rfl, d5, rfl⟩
                go_wp2
                go_ret
                exact ⟨by simp, below_drewN B5 _⟩
          · obtain rfl : m = k := by omega
            obtain ⟨xs0, er0, E0, q0, q1⟩ := endFr_cut ls hshort m c (by omega) hmc (fun h => by omega) hcl
            have ST : SlB wr Ab c ((putAll ls).take c) := by
              have := Sl.take SB (k := c) (by omega)
              rwa [Nat.mul_one, bsV_take] at this
            go_wp2_with fail
            refine (frameAll_any Ab c cb ((putAll ls).take c) wr ST (by omega) (by omega)).mono ?_
            rintro e w4 ⟨xs, k1, er, A4, n4, c4, E4, rfl, S4, m4, B4⟩
            obtain ⟨t1, rfl, rfl⟩ := E4.same E0
            rw [t1, q0] at S4
            have SL4 := (SL.below B4).take (k := m) (by omega)
            have B5 := B3.trans (B4.mono y3)
            have hn4 := S4.len
            rw [List.length_take] at hn4
            have qs4 : (ls.take m == ls.take m) = true := by simp
            clear E4 E0 B4 t1 ST
            rcases q1 with ⟨rfl, hq⟩ | ⟨rfl, hq⟩
            · have q2 : (((putAll (ls.take m)).length : Int) == (c : Int)) = true := by simp [hq]
              go_wp2_with fail
              refine (sameBB_any A4 a0 n4 m c4 cap0 _ _ w4 S4 SL4 (by omega)).mono ?_
              rintro e w5 ⟨rfl, d5, rfl⟩
              go_wp2
              go_ret
              exact ⟨by simp, below_drewN B5 _⟩
            · have q2 : (((putAll (ls.take m)).length : Int) == (c : Int)) = false := by simp; omega
              go_wp2_with fail
              refine (sameBB_any A4 a0 n4 m c4 cap0 _ _ w4 S4 SL4 (by omega)).mono ?_
              rintro e w5 ⟨rfl, d5, rfl⟩
              go_wp2
              go_ret
              exact ⟨by simp, below_drewN B5 _⟩
end Go.Proofs.Ytoeeiancbiaajaa
