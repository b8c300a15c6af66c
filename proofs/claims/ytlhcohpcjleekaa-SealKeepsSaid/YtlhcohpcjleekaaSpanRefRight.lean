/-
  firthref03.Right tells whether a list of spans is right.
-/
import Derived.Test.YtlhcohpcjleekaaSpanSmall
import Derived.Test.YtlhcohpcjleekaaExt
import Derived.IntWalk
namespace Go.Proofs.Ytlhcohpcjleekaa
open Go.RowKit
set_option linter.unusedVariables false

theorem rightS_long {l : List Sp} (h : 1024 < l.length) : rightS l = false := rightS_false (fun h' => by omega)
theorem lastOf_at {l : List Sp} {j : Nat} {x : Sp} (hx : l[j]? = some x) {k : Nat} (hk : k = j + 1) : lastOf l k = x := by subst hk; exact last_at hx

theorem SlS.at2 {w : World} {b off n k : Nat} {l : List Sp} (h : SlS w (some ⟨b, off, none⟩) n l) (hk : k < n) :
    ∃ (x y z : Int), l[k]? = some (x, y, z) ∧ w.cell? ⟨b, off + k * 3, none⟩ = some (.int .i64 x) ∧ w.cell? ⟨b, off + k * 3 + 1, none⟩ = some (.int .i64 y) ∧ w.cell? ⟨b, off + k * 3 + 2, none⟩ = some (.int .i64 z) := by
  obtain ⟨b', off', x, y, z, e, h1⟩ := h.at_ hk
  injection e with e
  injection e with e1 e2
  subst e1 e2
  exact ⟨x, y, z, h1⟩

theorem SlS.cells_at {w : World} {b off n k : Nat} {l : List Sp} {x y z : Int} (h : SlS w (some ⟨b, off, none⟩) n l) (hx : l[k]? = some (x, y, z)) :
    w.cell? ⟨b, off + k * 3, none⟩ = some (.int .i64 x) ∧ w.cell? ⟨b, off + k * 3 + 1, none⟩ = some (.int .i64 y) ∧ w.cell? ⟨b, off + k * 3 + 2, none⟩ = some (.int .i64 z) := by
  have hk : k < n := by have := h.len; have := (List.getElem?_eq_some_iff.1 hx).1; omega
  obtain ⟨x', y', z', h0, h1⟩ := h.at2 hk
  rw [hx] at h0
  injection h0 with h0
  injection h0 with e1 h0
  injection h0 with e2 e3
  subst e1 e2 e3
  exact h1

set_option maxHeartbeats 2000000 in
set_option maxRecDepth 100000 in
theorem refRightS_any (A : Option Addr) (n c : Nat) (l : List Sp) (w : World) (hs : SlS w A n l) (hn : n ≤ 140737488351232) :
    Calls Try.prog 21 #[.slice A n c] w fun e w' => e = .returned (.bool (rightS l)) ∧ Below w.heap.size w w' := by
  have hll := hs.len
  by_cases hlong : 1024 < n
  · have HF := Lib.hid (rightS_long (l := l) (by omega))
    go_enter Try.func21, Try.ntmps21
    go_wp2
    go_ret
    exact ⟨retb HF.out, Below.refl _ _⟩
  go_enter Try.func21, Try.ntmps21
  go_wp2
  go_loopw [3] (fun i wr => ∃ (k : Nat), i = .int .i64 (k : Int) ∧ k ≤ n ∧ Hid (RInv l k (lastOf l k)) ∧ Below w.heap.size w wr) (fun i _ => n - (intOf i).toNat)
  case atStart => exact ⟨0, rfl, Nat.zero_le _, RInv.start l, Below.refl _ _⟩
  case round =>
    obtain ⟨k, rfl, hk, Hok, hbel⟩ := hrel
    have hsz := hbel.size
    by_cases hlt : k < n
    · have hsr := Sl.below hs hbel
      obtain ⟨b, off, x, y, z, rfl, hx, hc0, hc1, hc2⟩ := SlS.at_ hsr hlt
      have Hx := Lib.hid hx
      have G0 := Ext.cell hc0
      have G1 := Ext.cell hc1
      have G2 := Ext.cell hc2
      have j0 : (0 : Int) ≤ (k : Int) := by omega
      have j1 : (k : Int) < (n : Int) := by omega
      have HSR := Lib.hid hsr
      clear hx hs hsr hc0 hc1 hc2
      by_cases d1 : 1 ≤ x ∧ x ≤ 16 ∧ 1 ≤ y ∧ y ≤ 4611686018427387904
      · have u1 : dotB x y = true := dotB_true.2 d1
        by_cases d2 : 1 ≤ z ∧ z ≤ 4611686018427387904
        · have u2 : dotB x z = true := dotB_true.2 ⟨d1.1, d1.2.1, d2⟩
          by_cases d3 : z < y
          · have u3 : decide (y > z) = true := decide_eq_true d3
            have HF := Lib.hid (Hok.out.no Hx.out (.inl (by unfold okSp; simp only; omega)))
            clear d1 d2
            go_wp2_with fail
            refine wp_region_ext (by kernel_rfl) (by kernel_rfl) ?_
            repeat (go_big_quiet_step ((go_at_call 35; exact Calls.ext_of (refDot_any _ _ _))))
            refine wpQuiet_nil ?_
            intro w1 hw1
            have BX := Lib.hid (ext_end hw1)
            have B1 := hbel.trans (BX.out.mono hsz)
            clear hw1 G0 G1 G2
            go_wp2
            go_ret
            exact ⟨retb HF.out, B1⟩
          · have u3 : decide (y > z) = false := decide_eq_false d3
            have ho : okSp (x, y, z) := by unfold okSp; simp only; omega
            have HO := Lib.hid ho
            obtain ⟨d11, d12, d13, d14⟩ := d1
            obtain ⟨d21, d22⟩ := d2
            clear ho
            go_wp2_with fail
            refine wp_region_ext (by kernel_rfl) (by kernel_rfl) ?_
            repeat (go_big_quiet_step ((go_at_call 35; exact Calls.ext_of (refDot_any _ _ _))))
            refine wpQuiet_nil ?_
            intro w1 hw1
            have BX := Lib.hid (ext_end hw1)
            have B1 := hbel.trans (BX.out.mono hsz)
            clear hw1 G0 G1 G2
            have hs1 := Sl.below HSR.out BX.out
            clear u1 u2 u3 HSR BX
            rcases Nat.eq_zero_or_pos k with hk0 | hk0
            · have v0 : decide (0 < k) = false := decide_eq_false (by omega)
              have HN := Lib.hid (Hok.out.step Hx.out HO.out (by subst hk0; left; show (0 : Int) < x; omega))
              have HL := Lib.hid (last_at Hx.out)
              clear hk0 hs1
              go_wp2_with fail
              go_quiet (fail)
              go_wp2
              go_roundw
              case rel => exact ⟨k + 1, by go_num, by omega, by rw [HL.out]; exact HN.out, below_drewN B1 _⟩
              case measure => simp [intOf]; omega
            · have v0 : decide (0 < k) = true := decide_eq_true (by omega)
              obtain ⟨x', y', z', hx', hc0', hc1', hc2'⟩ := SlS.at2 hs1 (k := k - 1) (by omega)
              obtain ⟨hc0, hc1, hc2⟩ := SlS.cells_at hs1 Hx.out
              have HL := Lib.hid (lastOf_at hx' (show k = k - 1 + 1 by omega))
              have HLN := Lib.hid (last_at Hx.out)
              have hb := Hok.out.bound (by omega)
              rw [HL.out] at hb
              obtain ⟨p1, p2, p3, p4⟩ := hb
              simp only at p1 p2 p3 p4
              have i0 : (0 : Int) ≤ (k : Int) - 1 := by omega
              have i1 : (1 : Int) ≤ (k : Int) := by omega
              have i2 : (k : Int) - 1 < (n : Int) := by omega
              have i3 : ((k : Int) - 1).toNat = k - 1 := by omega
              have i4 : IntKind.i64.wrap ((k : Int) - 1) = (k : Int) - 1 := IntWalk.i64_in _ (by omega)
              have i5 : IntKind.i64.wrap (y - 1) = y - 1 := IntWalk.i64_in _ (by omega)
              by_cases q1 : x < x'
              · have v1 : decide (x < x') = true := decide_eq_true q1
                have HF := Lib.hid (Hok.out.no Hx.out (.inr (by rw [HL.out]; simp only; omega)))
                clear hs1 hx' q1
                go_wp2_with fail
                go_quiet (fail)
                go_wp2
                go_ret
                exact ⟨retb HF.out, below_drewN B1 _⟩
              · have v1 : decide (x < x') = false := decide_eq_false q1
                by_cases q2 : x = x'
                · subst q2
                  have v2 : (x == x) = true := beq_self_eq_true _
                  by_cases q3 : y - 1 ≤ z'
                  · have v3 : decide (y - 1 ≤ z') = true := decide_eq_true q3
                    have HF := Lib.hid (Hok.out.no Hx.out (.inr (by rw [HL.out]; exact .inr ⟨rfl, by show y ≤ z' + 1; omega⟩)))
                    clear hs1 hx' q1 q3
                    go_wp2_with fail
                    go_quiet (fail)
                    go_wp2
                    go_ret
                    exact ⟨retb HF.out, below_drewN B1 _⟩
                  · have v3 : decide (y - 1 ≤ z') = false := decide_eq_false q3
                    have HN := Lib.hid (Hok.out.step Hx.out HO.out (by rw [HL.out]; right; exact ⟨rfl, by show z' + 1 < y; omega⟩))
                    clear hs1 hx' q1 q3
                    go_wp2_with fail
                    go_quiet (fail)
                    go_wp2
                    go_roundw
                    case rel => exact ⟨k + 1, by go_num, by omega, by rw [HLN.out]; exact HN.out, below_drewN B1 _⟩
                    case measure => simp [intOf]; omega
                · have v2 : (x == x') = false := beq_eq_false_iff_ne.2 q2
                  have HN := Lib.hid (Hok.out.step Hx.out HO.out (by rw [HL.out]; left; show x' < x; omega))
                  clear hs1 hx' q1 q2
                  go_wp2_with fail
                  go_quiet (fail)
                  go_wp2
                  go_roundw
                  case rel => exact ⟨k + 1, by go_num, by omega, by rw [HLN.out]; exact HN.out, below_drewN B1 _⟩
                  case measure => simp [intOf]; omega
        · have u2 : dotB x z = false := dotB_false (by omega)
          have HF := Lib.hid (Hok.out.no Hx.out (.inl (by unfold okSp; simp only; omega)))
          clear d1 d2
          go_wp2_with fail
          refine wp_region_ext (by kernel_rfl) (by kernel_rfl) ?_
          repeat (go_big_quiet_step ((go_at_call 35; exact Calls.ext_of (refDot_any _ _ _))))
          refine wpQuiet_nil ?_
          intro w1 hw1
          have BX := Lib.hid (ext_end hw1)
          have B1 := hbel.trans (BX.out.mono hsz)
          clear hw1 G0 G1 G2
          go_wp2
          go_ret
          exact ⟨retb HF.out, B1⟩
      · have u1 : dotB x y = false := dotB_false d1
        have HF := Lib.hid (Hok.out.no Hx.out (.inl (by unfold okSp; simp only; omega)))
        clear d1
        go_wp2_with fail
        refine wp_region_ext (by kernel_rfl) (by kernel_rfl) ?_
        repeat (go_big_quiet_step ((go_at_call 35; exact Calls.ext_of (refDot_any _ _ _))))
        refine wpQuiet_nil ?_
        intro w1 hw1
        have BX := Lib.hid (ext_end hw1)
        have B1 := hbel.trans (BX.out.mono hsz)
        clear hw1 G0 G1 G2
        go_wp2
        go_ret
        exact ⟨retb HF.out, B1⟩
    · obtain rfl : k = n := by omega
      go_wp2
      go_ret
      exact ⟨retb (by rw [Hok.out.all hll]; simp; omega), hbel⟩
end Go.Proofs.Ytlhcohpcjleekaa
