/-
  The walk of firthlaw21.SessApart.
-/
import Derived.Test.YtbcgalejebeicaaSessNew
import Derived.Test.YtbcgalejebeicaaIncLoop
namespace Go.Proofs.Ytbcgalejebeicaa
open Go.RowKit
set_option linter.unusedVariables false

section
variable {K K2 : Nat → Prop} {w0 w w1 w' : World} {p m : Nat} {sites : Int} {l : List Ses}
/-- A row that is none of the state's has been written. -/
theorem SessP.grown (h : SessP K2 w1 w p sites l m) {row : Option Nat} (hg : w.grownBy w' row) (hr : ∀ g, row = some g → K2 g ∧ ¬ K g) (hK : ∀ b, K b → K2 b) : SessP K w1 w' p sites l m := by
  obtain ⟨G, fp, hG, h1, h2, h3, h4⟩ := h
  refine ⟨G, fp, hG, h1.kept (Kept.grown hg fun g hg' hf => h2 g hf (hr g hg').1) hg.size, fun b hb hk => h2 b hb (hK b hk), ?_, fun b hk => h4 b (hK b hk)⟩
  exact (h3.mono fun i hi => .inl fun hk => hi (hK i hk)).trans (Fr.of_grown hg) fun i hi => .inl (hr i hi.symm).2
end
theorem Sl.fr {w w' : World} {A : Option Addr} {n sz : Nat} {xs : List Value} {fp : Nat → Prop} (h : Sl w A n sz xs) (F : Fr fp w w') (hf : ∀ b, fp b → w.heap.size ≤ b) : Sl w' A n sz xs :=
  h.below (F.below hf (Nat.le_refl _))

set_option maxHeartbeats 2000000 in
set_option maxRecDepth 100000 in
theorem sessApart_walk (a0 : Option Addr) (len0 cap0 : Nat) (l0 : List UInt8) (w : World) (s0 : SlB w a0 len0 l0) (b0 : len0 ≤ cap0) (z0 : cap0 * 1 ≤ 140737488351232) :
    Calls Try.prog 3 #[.slice a0 len0 cap0] w fun e w' => e = .returned (.bool true) ∧ Below w.heap.size w w' := by
  obtain ⟨i0, hi, hz0, hz1, hz2⟩ := info_parts Try.infoByte
  have e0 := s0.len
  go_enter Try.func3, Try.ntmps3
  go_wp2_with fail
  refine (awake_any w).mono ?_
  rintro e w1 ⟨rfl, b1⟩
  have S1 := Sl.below s0 b1
  have B1 := Lib.hid b1
  clear b1
  go_wp2_with fail
  refine (newP 1 w1 (by omega) (by omega)).mono ?_
  rintro e w2 ⟨p, rfl, H2⟩
  have C := Lib.hid (show Calls Try.prog 8 #[.pointer (some ⟨p, 0, none⟩), .int .i64 1] w2 (fun e w' => e = .returned (.tuple #[.int .i64 1, .int .i64 0]) ∧ SessP (fun b => b < w1.heap.size) w1 w' p 1 [⟨1, [], 0⟩] 0) from openP 1 H2 (by simp))
  clear H2
  go_wp2_with fail
  refine C.out.mono ?_
  rintro e w3 ⟨rfl, H3⟩
  have C3 := Lib.hid (show Calls Try.prog 9 #[.pointer (some ⟨p, 0, none⟩), .int .i64 1, .int .i64 1] w3 (fun e w' => ∃ A k c, e = .returned (.tuple #[.int .i64 1, .slice A k c, .int .i64 0]) ∧ SlB w' A k [] ∧ k ≤ c ∧ w'.ownsRow w3.heap.size 5 1 (.slice A k c) k (bsV []) ∧ SessP (fun b => b < w1.heap.size) w1 w' p 1 [⟨1, [], 1⟩] 1 ∧ _) from beginP 1 1 H3 (by unfold maxLen; omega) (by decide))
  clear H3 C
  go_wp2_with fail
  refine C3.out.mono ?_
  rintro e w4 ⟨A4, k4, c4, rfl, _, _, _, H4, _⟩
  have F4 := H4.fr
  have S4 : SlB w4 a0 len0 l0 := Sl.fr S1 F4 (fun b hb => by omega)
  have HF4 := Lib.hid F4
  have HH4 := Lib.hid H4
  clear C3 S1 F4 H4
  go_wp2_with (at_builtin; refine wpList_append_sl _ rfl (.tmp 29) (.tmp 30) 22 rfl (w4.heap.size) 5 i0 (.int .u8 0) 1 1 Try.underlying22 hi hz0 hz1 hz2 rfl (by decide) (.slice none 0 0) (0) ([]) rfl (World.ownsRow_nil _ _ _ _) (a0) (len0) (cap0) (bsV l0) rfl (S4) (bsV_one _) (by unfold maxLen; omega) (by omega) (Nat.le_refl _) ?_)
  intro v5 w5 own5 g5 _
  have B5 : Below w4.heap.size w4 w5 := below_grow (Below.refl _ _) (World.ownsRow_nil _ w4.heap.size 5 1) g5 (Nat.le_refl _) (Nat.le_refl _)
  have S5 := Sl.below S4 B5
  obtain ⟨A5, c5, rfl, hc5, -⟩ := own_slice own5
  have H5 := HH4.out.over (K2 := fun b => b < w1.heap.size ∨ w4.heap.size ≤ b ∧ b < w5.heap.size) B5 (fun b hb => hb)
  have F5 := Lib.hid (HF4.out.trans (Fr.of_below B5 (fp := fun _ => False)) (fun _ h => h.elim))
  have T5 : SlB w5 A5 len0 l0 := by have := Sl.of_own own5; simpa [SlB] using this
  have C5 := Lib.hid (show Calls Try.prog 10 #[.pointer (some ⟨p, 0, none⟩), .int .i64 1, .slice A5 len0 c5] w5 (fun e w' => e = .returned (.tuple #[.int .i64 1, .bool true]) ∧ SessP (fun b => b < w1.heap.size ∨ w4.heap.size ≤ b ∧ b < w5.heap.size) w5 w' p 1 [⟨1, if l0 = [] then [] else l0, 0⟩] 1) from
    endP 1 A5 len0 c5 l0 H5 (by decide) T5 (by omega) (by omega) (fun b off s hn e => .inr (by subst e; exact own5.lt b rfl)))
  have hl0 : (if l0 = [] then [] else l0) = l0 := by split <;> simp_all
  rw [hl0] at C5
  have HO5 := Lib.hid own5
  have Y4 := Lib.hid (show w1.heap.size ≤ w4.heap.size from HF4.out.size)
  clear g5 S4 B5 HH4 HF4 own5 T5 H5 hl0
  go_wp2_with fail
  refine C5.out.mono ?_
  rintro e w6 ⟨rfl, H6⟩
  have F6 := H6.fr
  have own6 : w6.ownsRow w4.heap.size 5 1 (.slice A5 len0 c5) len0 (bsV l0) := by
    have := own_keep HO5.out (fp := fun b => w4.heap.size ≤ b ∧ b < w5.heap.size) (fun g hg => HO5.out.lt g hg) (F6.kept fun b hb hn => hn (.inr hb))
    simpa using this
  have HH6 := Lib.hid H6
  clear C5 H6 F6
  go_wp2_with fail
  go_loopw [6] (fun i uu => ∃ (k : Nat) (xs : List UInt8), i = .int .i64 (k : Int) ∧ k ≤ len0 ∧ uu.ownsRow (w4.heap.size) 5 1 (.slice A5 len0 c5) len0 (bsV xs) ∧ (w6).grownBy uu (Value.slice A5 len0 c5).ownBlock) (fun i _ => len0 - (intOf i).toNat)
  case atStart => exact ⟨0, _, rfl, Nat.zero_le _, own6, World.grownBy.refl _ _⟩
  case round =>
    obtain ⟨k, xs, rfl, hk, hown, hg⟩ := hrel
    by_cases hlt : k < len0
    · obtain ⟨g, cap, hv, _, _⟩ := hown.form (by omega)
      injection hv with hv1 hv2 hv3
      have hxl : xs.length = len0 := by have := hown.1; rw [bsV_length] at this; omega
      have hv1' := hv1
      rw [hv1, hv3] at hown hg
      obtain ⟨x, hx, hcell0⟩ : ∃ x : UInt8, xs[k]? = some x ∧ wr.cell? ⟨g, k, none⟩ = some (bV x) := by
        refine ⟨xs[k], List.getElem?_eq_getElem (by omega), ?_⟩
        rw [hown.cellAt k (by omega)]
        simp [bsV, List.getElem?_eq_getElem (show k < xs.length by omega)]
      obtain ⟨cc, hcc, hcx⟩ : ∃ cc : Nat, cc < 256 ∧ bV x = .int .u8 (cc : Int) := ⟨x.toNat, UInt8.toNat_lt x, rfl⟩
      rw [hcx] at hcell0
      obtain ⟨y, hy⟩ := inc_byte cc hcc
      have hfr := hown.frozenAt k
      obtain ⟨R1, R2⟩ := hown.stored k (.int .u8 (IntKind.u8.wrap ((cc : Int) + 1)))
      rw [hy, bsV_set] at R1
      rw [← hy] at R1
      have R2 := World.grownBy.trans hg R2
      have HR := Lib.hid (And.intro R1 R2)
      have HV := Lib.hid (And.intro hv1 hv3)
      clear R1 R2 hown hg hxl hx hcx hy hv1'
      subst hv1 hv3
      go_wp2
      go_roundw
      case rel => exact ⟨k + 1, _, by go_num, by omega, HR.out.1, HR.out.2⟩
      case measure => simp [intOf]; omega
    · have H7 := HH6.out.grown (K := fun b => b < w1.heap.size) hg (fun g hg' => ⟨.inr (HO5.out.lt g hg'), fun hh => by have := (HO5.out.lt g hg').1; have := Y4.out; omega⟩) (fun b hb => .inl hb)
      have F7 := Lib.hid (F5.out.trans H7.fr (fun i hi => .inl hi))
      have C7 := Lib.hid (tokenP 1 H7)
      have HH7 := Lib.hid H7
      clear hown hg H7 HH6
      obtain ⟨wx, rfl⟩ : ∃ wx : World, wx = wr := ⟨_, rfl⟩
      go_wp2_with fail
      refine C7.out.mono ?_
      rintro e w8 ⟨A8, n8, c8, rfl, s8, h8, own8, b8⟩
      have hn8 : n8 ≤ 140737488351232 := by have h : l0.length = n8 := SlB.len s8; omega
      have H8 := HH7.out.over (K2 := fun b => b < w1.heap.size ∨ wx.heap.size ≤ b ∧ b < w8.heap.size) b8 (fun b hb => hb)
      have F8 := Lib.hid (F7.out.trans (Fr.of_below b8 (fp := fun _ => False)) (fun _ h => h.elim))
      have HO8 := Lib.hid own8
      have HH8 := Lib.hid H8
      have Y7 := Lib.hid F7.out.size
      clear C7 HH7 b8 H8 s8
      go_wp2_with fail
      go_loopw [8] (fun i uu => ∃ (k : Nat) (xs : List UInt8), i = .int .i64 (k : Int) ∧ k ≤ n8 ∧ uu.ownsRow (wx.heap.size) 5 1 (.slice A8 n8 c8) n8 (bsV xs) ∧ (w8).grownBy uu (Value.slice A8 n8 c8).ownBlock) (fun i _ => n8 - (intOf i).toNat)
      case atStart => exact ⟨0, _, rfl, Nat.zero_le _, own8, World.grownBy.refl _ _⟩
      case round =>
        obtain ⟨k, xs, rfl, hk, hown, hg⟩ := hrel
        by_cases hlt : k < n8
        · obtain ⟨g, cap, hv, _, _⟩ := hown.form (by omega)
          injection hv with hv1 hv2 hv3
          have hxl : xs.length = n8 := by have := hown.1; rw [bsV_length] at this; omega
          have hv1' := hv1
          rw [hv1, hv3] at hown hg
          obtain ⟨x, hx, hcell0⟩ : ∃ x : UInt8, xs[k]? = some x ∧ wr.cell? ⟨g, k, none⟩ = some (bV x) := by
            refine ⟨xs[k], List.getElem?_eq_getElem (by omega), ?_⟩
            rw [hown.cellAt k (by omega)]
            simp [bsV, List.getElem?_eq_getElem (show k < xs.length by omega)]
          obtain ⟨cc, hcc, hcx⟩ : ∃ cc : Nat, cc < 256 ∧ bV x = .int .u8 (cc : Int) := ⟨x.toNat, UInt8.toNat_lt x, rfl⟩
          rw [hcx] at hcell0
          obtain ⟨y, hy⟩ := inc_byte cc hcc
          have hfr := hown.frozenAt k
          obtain ⟨R1, R2⟩ := hown.stored k (.int .u8 (IntKind.u8.wrap ((cc : Int) + 1)))
          rw [hy, bsV_set] at R1
          rw [← hy] at R1
          have R2 := World.grownBy.trans hg R2
          have HR := Lib.hid (And.intro R1 R2)
          have HV := Lib.hid (And.intro hv1 hv3)
          clear R1 R2 hown hg hxl hx hcx hy hv1'
          subst hv1 hv3
          go_wp2
          go_roundw
          case rel => exact ⟨k + 1, _, by go_num, by omega, HR.out.1, HR.out.2⟩
          case measure => simp [intOf]; omega
        · have H9 := HH8.out.grown (K := fun b => b < w1.heap.size) hg (fun g hg' => ⟨.inr (HO8.out.lt g hg'), fun hh => by have := (HO8.out.lt g hg').1; have := Y7.out; omega⟩) (fun b hb => .inl hb)
          have F9 := Lib.hid (F8.out.trans H9.fr (fun i hi => .inl hi))
          have C9 := Lib.hid (show Calls Try.prog 9 #[.pointer (some ⟨p, 0, none⟩), .int .i64 1, .int .i64 2] wr (fun e w' => ∃ A k c, e = .returned (.tuple #[.int .i64 1, .slice A k c, .int .i64 0]) ∧ SlB w' A k l0 ∧ k ≤ c ∧ w'.ownsRow wr.heap.size 5 1 (.slice A k c) k (bsV l0) ∧ _ ∧ SessP (fun b => b < w1.heap.size ∨ wr.heap.size ≤ b ∧ b < w'.heap.size) w' w' p 1 [⟨1, l0, 2⟩] 2) from beginP 1 2 H9 (by unfold maxLen; omega) (by decide))
          have F9' := Lib.hid H9.fr
          clear hown hg H9 HH8
          obtain ⟨wy, rfl⟩ : ∃ wy : World, wy = wr := ⟨_, rfl⟩
          go_wp2_with fail
          refine C9.out.mono ?_
          rintro e w10 ⟨A10, n10, c10, rfl, s10, h10, own10, HA, H10⟩
          have hn10 : n10 ≤ 140737488351232 := by have h : l0.length = n10 := SlB.len s10; omega
          have F10 := Lib.hid (F8.out.trans HA.fr (fun i hi => .inl hi))
          have HO10 := Lib.hid own10
          have HH10 := Lib.hid H10
          have Y9 := Lib.hid F9.out.size
          clear C9 HA H10 s10
          go_wp2_with fail
          go_loopw [12] (fun i uu => ∃ (k : Nat) (xs : List UInt8), i = .int .i64 (k : Int) ∧ k ≤ n10 ∧ uu.ownsRow (wy.heap.size) 5 1 (.slice A10 n10 c10) n10 (bsV xs) ∧ (w10).grownBy uu (Value.slice A10 n10 c10).ownBlock) (fun i _ => n10 - (intOf i).toNat)
          case atStart => exact ⟨0, _, rfl, Nat.zero_le _, own10, World.grownBy.refl _ _⟩
          case round =>
            obtain ⟨k, xs, rfl, hk, hown, hg⟩ := hrel
            by_cases hlt : k < n10
            · obtain ⟨g, cap, hv, _, _⟩ := hown.form (by omega)
              injection hv with hv1 hv2 hv3
              have hxl : xs.length = n10 := by have := hown.1; rw [bsV_length] at this; omega
              have hv1' := hv1
              rw [hv1, hv3] at hown hg
              obtain ⟨x, hx, hcell0⟩ : ∃ x : UInt8, xs[k]? = some x ∧ wr.cell? ⟨g, k, none⟩ = some (bV x) := by
                refine ⟨xs[k], List.getElem?_eq_getElem (by omega), ?_⟩
                rw [hown.cellAt k (by omega)]
                simp [bsV, List.getElem?_eq_getElem (show k < xs.length by omega)]
              obtain ⟨cc, hcc, hcx⟩ : ∃ cc : Nat, cc < 256 ∧ bV x = .int .u8 (cc : Int) := ⟨x.toNat, UInt8.toNat_lt x, rfl⟩
              rw [hcx] at hcell0
              obtain ⟨y, hy⟩ := inc_byte cc hcc
              have hfr := hown.frozenAt k
              obtain ⟨R1, R2⟩ := hown.stored k (.int .u8 (IntKind.u8.wrap ((cc : Int) + 1)))
              rw [hy, bsV_set] at R1
              rw [← hy] at R1
              have R2 := World.grownBy.trans hg R2
              have HR := Lib.hid (And.intro R1 R2)
              have HV := Lib.hid (And.intro hv1 hv3)
              clear R1 R2 hown hg hxl hx hcx hy hv1'
              subst hv1 hv3
              go_wp2
              go_roundw
              case rel => exact ⟨k + 1, _, by go_num, by omega, HR.out.1, HR.out.2⟩
              case measure => simp [intOf]; omega
            · have H11 := HH10.out.grown (K := fun b => b < w1.heap.size) hg (fun g hg' => ⟨.inr (HO10.out.lt g hg'), fun hh => by have := (HO10.out.lt g hg').1; have := Y9.out; omega⟩) (fun b hb => .inl hb)
              have F11 := F10.out.trans H11.fr (fun i hi => .inl hi)
              have S11 : SlB wr.drew a0 len0 l0 := Sl.drew (Sl.fr (Sl.below s0 B1.out) F11 (fun b hb => by omega))
              have B11 : Below w.heap.size w wr.drew := (B1.out.trans ((F11.below (B := w.heap.size) (fun b hb => by have := B1.out.size; omega) B1.out.size))).drew
              have C11 := Lib.hid (tokenP 1 (H11.below ((Below.refl _ _).drew)))
              have kA := run_convert_SlB (P := Try.prog) S11 22 5 9 Try.underlying22 Try.underlying5 Try.underlying9 cap0
              have HB11 := Lib.hid B11
              have HS11 := Lib.hid S11
              clear hown hg H11 HH10 F11 S11 B11
              go_wp2_with fail
              go_region_with (go_at_call 11; refine C11.out.mono ?_; rintro e w12 ⟨A12, n12, c12, rfl, s12, h12, -, b12⟩; have k12 := run_convert_SlB (P := Try.prog) (show SlB w12 A12 n12 l0 from s12) 22 5 9 Try.underlying22 Try.underlying5 Try.underlying9 c12; have kB := run_convert_SlB (P := Try.prog) (Sl.below HS11.out b12) 22 5 9 Try.underlying22 Try.underlying5 Try.underlying9 cap0; have hB12 := HB11.out.trans (b12.mono HB11.out.size))
              all_goals go_wp2
              all_goals go_ret
              all_goals exact ⟨retb (by simp), hB12⟩
end Go.Proofs.Ytbcgalejebeicaa
