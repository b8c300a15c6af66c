/-
  firthlaw13.SealKeeps: the walk.
-/
import Derived.Test.YtlhcohpcjleekaaSealTurnedWalk
import Derived.Test.YtlhcohpcjleekaaIncLoop
namespace Go.Proofs.Ytlhcohpcjleekaa
open Go.RowKit
set_option linter.unusedVariables false

theorem own_farK {w : World} {B B' : Nat} {e e' : TypeId} {s s' n n' : Nat} {v v' : Value} {xs xs' : List Value} (h : w.ownsRow B e s v n xs) (h' : w.ownsRow B' e' s' v' n' xs') (hne : e ≠ e') : v.ownBlock = none ∨ v.ownBlock ≠ v'.ownBlock := by
  cases hv : v.ownBlock with
  | none => exact .inl rfl
  | some b =>
    refine .inr fun e0 => ?_
    obtain ⟨cs, hcs⟩ := own_tag h hv
    obtain ⟨cs', hcs'⟩ := own_tag h' e0.symm
    exact wtag_ne hcs hcs' hne rfl
theorem sl_grown {w w' : World} {row : Option Nat} {A : Option Addr} {n sz : Nat} {xs : List Value} (h : Sl w A n sz xs) (g : w.grownBy w' row) (hr : ∀ b off, 0 < n * sz → A = some ⟨b, off, none⟩ → some b ≠ row) : Sl w' A n sz xs :=
  Sl.keepB h fun b off hn e => g.block b (Sl.blk_lt h hn e) (hr b off hn e)
set_option maxHeartbeats 4000000 in
set_option maxRecDepth 100000 in
theorem sealKeeps_any (s : ByteArray) (g : Int) (B : Option Addr) (nl kl : Nat) (l : List Sp) (w : World) (hz : s.size ≤ 140737488351232) (hg : g ≤ 9223372036854775807)
    (hs : SlS w B nl l) (hnl : nl * 24 ≤ 140737488351232) :
    Calls Try.prog 8 #[.agg #[.string s, .int .i64 g], .slice B nl kl] w fun e w' => e = .returned (.bool true) ∧ Below w.heap.size w w' := by
  obtain ⟨i0, hi, hz0, hz1, hz2⟩ := info_parts Try.infoSpan
  have bA := (Below.refl w.heap.size w).alloc (Nat.le_refl _) (.cells #[.string s, .int .i64 g] 23)
  have HK := Lib.hid (BoxK.new w s g)
  have HA := Lib.hid bA
  have HS := Lib.hid hs
  have C5 := Lib.hid (awakeS_any (w.alloc (.cells #[.string s, .int .i64 g] 23)))
  clear hs bA
  go_enter Try.func8, Try.ntmps8
  go_wp2_with fail
  refine C5.out.mono ?_
  rintro e w1 ⟨rfl, b1⟩
  have HB1 := Lib.hid (HA.out.trans (b1.mono HA.out.size))
  have HK1 := Lib.hid (HK.out.below b1)
  have HS1 := Lib.hid (show SlS w1 B nl l from Sl.below HS.out HB1.out)
  clear b1 C5
  go_wp2_with (first | (at_builtin; refine wpList_append_sl _ rfl (.tmp 18) (.tmp 19) 24 rfl (w1.heap.size) 45 i0 (.agg #[.int .i64 0, .int .i64 0, .int .i64 0]) 3 24 Try.underlying24 hi hz0 hz1 hz2 rfl (by decide) (.slice none 0 0) (0) ([]) rfl (World.ownsRow_nil _ _ _ _) (B) (nl) (kl) (spV l) rfl (HS1.out) (spV_one _) (by unfold maxLen; omega) (by omega) (Nat.le_refl _) ?_) | fail)
  intro v2 w2 own2 g2 _
  obtain ⟨A2, c2, rfl, hc2, -⟩ := own_slice own2
  have b2 : Below w1.heap.size w1 w2 := (Below.refl _ _).grown g2 (Nat.le_refl _) (fun q hq => by simp [Value.ownBlock] at hq)
  have HB2 := Lib.hid (HB1.out.trans (b2.mono HB1.out.size))
  have HK2 := Lib.hid (HK1.out.below b2)
  have HM2 := Lib.hid (show SlS w2 A2 nl l from Sl.of_own own2)
  have k0 := HK2.out.c0
  have k1 := HK2.out.c1
  have hT : ∃ T x, sealE s g l = (T, x) ∧ T.length ≤ 40000 := by
    by_cases hok : mayB s g = true ∧ rightS l = true
    · refine ⟨_, _, sealE_yes hok, ?_⟩
      rw [List.length_append, markB_len]
      have := setB_len (rightS_true.1 hok.2).2
      have := putNum_len g
      unfold bodyB
      rw [List.length_append, List.length_append]
      simp only [List.length_cons, List.length_nil]
      omega
    · exact ⟨_, _, sealE_no hok, by simp⟩
  obtain ⟨T, x, hTx, hTl⟩ := hT
  have C3 := Lib.hid (fun (W : World) (h : SlS W A2 nl l) => seal_any s g A2 nl c2 l W h (by omega) hz hg)
  have C9 := Lib.hid (fun (W : World) (h : SlS W B nl l) => refSeal_any s g B nl kl l W h (by omega) hz hg)
  rw [hTx] at C3 C9
  simp only at C3 C9
  clear own2 g2 b2 hTx HK1
  go_wp2_with fail
  refine (C3.out _ HM2.out).mono ?_
  rintro e w3 ⟨A3, n3, c3, rfl, s3, hc3, hm3, b3, o3⟩
  have hn3 : n3 ≤ 40000 := by have : T.length = n3 := s3.len; omega
  have HB3 := Lib.hid (HB2.out.trans (b3.mono HB2.out.size))
  have HW3 := Lib.hid b3
  have HK3 := Lib.hid (HK2.out.below b3)
  have HM3 := Lib.hid (show SlS w3 A2 nl l from Sl.below HM2.out b3)
  have HO3 := Lib.hid o3
  have HR3 := Lib.hid (fun q (hq : (Value.slice A3 n3 c3).ownBlock = some q) => o3.lt q hq)
  have HS3 := Lib.hid s3
  clear b3 o3 s3 k0 k1
  have k0 := HK3.out.c0
  have k1 := HK3.out.c1
  go_wp2_with fail
  refine (C3.out _ HM3.out).mono ?_
  rintro e w4 ⟨A4, n4, c4, rfl, s4, hc4, hm4, b4, o4⟩
  have HB4 := Lib.hid (HB3.out.trans (b4.mono HB3.out.size))
  have HK4 := Lib.hid (HK3.out.below b4)
  have HM4 := Lib.hid (show SlS w4 A2 nl l from Sl.below HM3.out b4)
  have HO34 := Lib.hid (own_below HO3.out b4)
  have HS34 := Lib.hid (show SlB w4 A3 n3 T from HS3.out.below b4)
  have HO4 := Lib.hid o4
  have hw34 := b4.size
  have HW34 := Lib.hid b4
  have hw23 := HW3.out.size
  have C5 := Lib.hid (sealOpen_any s g A3 n3 c3 T w4 HS34.out hc3 (by omega) hz)
  have hTl2 := openE_len s g T
  obtain ⟨P, hP⟩ : ∃ P, openE s g T = P := ⟨_, rfl⟩
  rw [hP] at C5 hTl2
  clear b4 o4 s4 k0 k1 hP HS34 HS3 HM3 HK3 HO3
  have k0 := HK4.out.c0
  have k1 := HK4.out.c1
  go_wp2_with fail
  refine C5.out.mono ?_
  rintro e w5 ⟨A5, n5, c5, rfl, o5, hc5, b5⟩
  have hn5 : n5 ≤ 1024 := by have := o5.1; rw [spV_length] at this; omega
  have HB5 := Lib.hid (HB4.out.trans (b5.mono HB4.out.size))
  have HK5 := Lib.hid (HK4.out.below b5)
  have HM5 := Lib.hid (show SlS w5 A2 nl l from Sl.below HM4.out b5)
  have own6 := own_below HO34.out b5
  have HO45 := Lib.hid (own_below HO4.out b5)
  have HO5 := Lib.hid o5
  have hw45 := b5.size
  have HW45 := Lib.hid b5
  have HO35 := Lib.hid own6
  clear b5 o5 k0 k1 C5 HO34 HO4 HM4 HK4
  go_wp2_with fail
  go_loopw [12] (fun i uu => ∃ (k : Nat) (xs : List UInt8), i = .int .i64 (k : Int) ∧ k ≤ n3 ∧ uu.ownsRow (w2.heap.size) 5 1 (.slice A3 n3 c3) n3 (bsV xs) ∧ (w5).grownBy uu (Value.slice A3 n3 c3).ownBlock) (fun i _ => n3 - (intOf i).toNat)
  case atStart => exact ⟨0, _, rfl, Nat.zero_le _, own6, World.grownBy.refl _ _⟩
  case round =>
    obtain ⟨k, xs, rfl, hk, hown, hg⟩ := hrel
    by_cases hlt : k < n3
    · obtain ⟨g, cap, hv, _, _⟩ := hown.form (by omega)
      injection hv with hv1 hv2 hv3
      have hxl : xs.length = n3 := by have := hown.1; rw [bsV_length] at this; omega
      have hv1' := hv1
      rw [hv1, hv3] at hown hg
      obtain ⟨x, hx, hcell0⟩ : ∃ x : UInt8, xs[k]? = some x ∧ wr.cell? ⟨g, k, none⟩ = some (bV x) := by
        refine ⟨xs[k], List.getElem?_eq_getElem (by omega), ?_⟩
        rw [hown.cellAt k (by omega)]
        simp [bsV, List.getElem?_eq_getElem (show k < xs.length by omega)]
      obtain ⟨cc, hcc, hcx⟩ : ∃ cc : Nat, cc < 256 ∧ bV x = .int .u8 (cc : Int) := ⟨x.toNat, UInt8.toNat_lt x, rfl⟩
      rw [hcx] at hcell0
      obtain ⟨y, hy⟩ := inc_byte cc hcc
      have hfr := hown.frozenAt k
      obtain ⟨R1, R2⟩ := hown.stored k (.int .u8 (IntKind.u8.wrap ((cc : Int) + 1)))
      rw [hy, bsV_set] at R1
      rw [← hy] at R1
      have R2 := World.grownBy.trans hg R2
      have HR := Lib.hid (And.intro R1 R2)
      have HV := Lib.hid (And.intro hv1 hv3)
      clear R1 R2 hown hg hxl hx hcx hy hv1'
      subst hv1 hv3
      go_wp2
      go_roundw
      case rel => exact ⟨k + 1, _, by go_num, by omega, HR.out.1, HR.out.2⟩
      case measure => simp [intOf]; omega
    · obtain rfl : k = n3 := by omega
      obtain ⟨w6, rfl⟩ : ∃ w6 : World, w6 = wr := ⟨_, rfl⟩
      have b56 : Below w2.heap.size w5 w6 := (Below.refl _ _).grown hg (by omega) (fun q hq => (HR3.out q hq).1)
      have HB6 := Lib.hid (HB5.out.trans (b56.mono HB2.out.size))
      have HM6 := Lib.hid (show SlS w6 A2 nl l from Sl.below HM2.out ((HW3.out.trans ((HW34.out.trans (HW45.out.mono HW34.out.size)).mono HW3.out.size)).trans b56))
      have HK6 := Lib.hid (show BoxK w6 w.heap.size s g from (b56.block _ (by have := HK2.out.lt; omega)).trans HK5.out)
      have HS46 := Lib.hid (show SlB w6 A4 n4 T from sl_grown (Sl.of_own HO45.out) hg (fun b off hn e he => by
        have h1 := (HR3.out b he.symm).2
        have h2 := (HO45.out.lt b (by rw [e]; rfl)).1
        omega))
      have HO46 := Lib.hid (HO45.out.kept hg (by
        cases hq : (Value.slice A4 n4 c4).ownBlock with
        | none => exact .inl rfl
        | some b =>
          refine .inr fun he => ?_
          have h1 := (HR3.out b he.symm).2
          have h2 := (HO45.out.lt b hq).1
          omega))
      have HO56 := Lib.hid (HO5.out.kept hg (own_farK HO5.out HO35.out (by decide)))
      have hw56 := b56.size
      clear hown hg b56
      go_wp2_with fail
      go_loopw [13] (fun t wr => ∃ (i : Nat) (xs : List Value), t = .int .i64 (i : Int) ∧ i ≤ n5 ∧ Hid (wr.ownsRow w4.heap.size 45 3 (.slice A5 n5 c5) n5 xs) ∧ Hid (w6.grownBy wr (Value.slice A5 n5 c5).ownBlock)) (fun t _ => n5 - (intOf t).toNat)
      case atStart => exact ⟨0, _, rfl, Nat.zero_le _, HO56, World.grownBy.refl _ _⟩
      case round =>
        obtain ⟨i, ys, rfl, hi2, HO, HG⟩ := hrel
        by_cases hlt : i < n5
        · obtain ⟨gb, rfl, hgb, hgb2⟩ := own_blkB HO.out (by omega)
          obtain ⟨u, hu⟩ : ∃ u, wr.cell? ⟨gb, i * 3 + 2, none⟩ = some u := by
            rw [HO.out.cellAt _ (by omega)]
            exact ⟨_, List.getElem?_eq_getElem (by rw [HO.out.1]; omega)⟩
          have hfz := HO.out.frozenAt (i * 3 + 2)
          obtain ⟨R1, R2⟩ := HO.out.stored (i * 3 + 2) (.int .i64 (-1))
          have HN1 := Lib.hid R1
          have HN2 := Lib.hid (World.grownBy.trans HG.out R2)
          clear R1 R2
          go_wp2
          go_roundw
          case rel => exact ⟨i + 1, _, by go_num, by omega, HN1, HN2⟩
          case measure => simp [intOf]; omega
        · obtain rfl : i = n5 := by omega
          have b67 : Below w4.heap.size w6 wr := (Below.refl _ _).grown HG.out (by omega) (fun q hq => (HO56.out.lt q hq).1)
          have HB7 := Lib.hid (HB6.out.trans (b67.mono HB4.out.size))
          have HM7 := Lib.hid (show SlS wr A2 nl l from sl_grown HM6.out HG.out (fun b off hn e he => by
            have h1 := (HO56.out.lt b he.symm).1
            have h2 := Sl.blk_lt HM2.out hn e
            omega))
          have HK7 := Lib.hid (show BoxK wr w.heap.size s g from (b67.block _ (by have := HK2.out.lt; omega)).trans HK6.out)
          have HS47 := Lib.hid (show SlB wr A4 n4 T from Sl.keepB HS46.out fun b off hn e => HG.out.block b (Sl.blk_lt HS46.out hn e) (fun he => by
            obtain ⟨cs, hcs⟩ := own_tag HO56.out he.symm
            obtain ⟨cs', hcs'⟩ := own_tag HO46.out (show (Value.slice A4 n4 c4).ownBlock = some b by rw [e]; rfl)
            exact wtag_ne hcs hcs' (by decide) rfl))
          have k0 := HK7.out.c0
          have k1 := HK7.out.c1
          clear b67
          go_wp2_with fail
          refine (C9.out _ (Sl.below HS.out HB7.out)).mono ?_
          rintro e w8 ⟨A8, n8, c8, rfl, s8, -, -, b8, -⟩
          have HB8 := Lib.hid (HB7.out.trans (b8.mono HB7.out.size))
          have e4 := bytes_conv (show SlB w8 A4 n4 T from HS47.out.below b8) c4
          have e8 := bytes_conv s8 c8
          have c10 := sameS_any A2 B nl nl c2 kl l l w8 (Sl.below HM7.out b8) (Sl.below HS.out HB8.out) (by omega)
          rw [show (l == l) = true from by simp] at c10
          have C10 := Lib.hid c10
          clear s8 b8 c10 k0 k1 C9 C3
          go_wp2_with fail
          refine C10.out.mono ?_
          rintro e w9 ⟨rfl, k9, rfl⟩
          go_wp2
          go_ret
          exact ⟨rfl, below_drewN HB8.out k9⟩
set_option maxRecDepth 100000 in
theorem sealKeeps_walk (a0 : List Value) (x0 : keySh.T) (a1 : Option Addr) (len1 cap1 : Nat) (l1 : List Sp) (w : World)
    (t0 : Rd w keySh a0 x0) (s1 : SlS w a1 len1 l1) (f1 : ∀ x ∈ l1, wfSp x) (b1 : len1 ≤ cap1) (z1 : cap1 * 24 ≤ 140737488351232) :
    Calls Try.prog 8 #[.agg a0.toArray, .slice a1 len1 cap1] w fun e w' => e = .returned (.bool true) ∧ Below w.heap.size w w' := by
  obtain ⟨s, g, rfl, rfl, hz, hg0, hg1⟩ := key_open t0
  exact sealKeeps_any s g a1 len1 cap1 l1 w hz hg1 s1 (by omega)
end Go.Proofs.Ytlhcohpcjleekaa
