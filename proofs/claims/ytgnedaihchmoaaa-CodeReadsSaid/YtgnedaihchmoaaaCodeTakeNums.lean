/-
  firth/code.take at numbers and hashes.
-/
import Derived.Test.YtgnedaihchmoaaaMD
namespace Go.Proofs.Ytgnedaihchmoaaa
open Go.RowKit
set_option linter.unusedVariables false

/-- Numbers in a row from a block on. -/
def OwnI (e : TypeId) (K : Int → Value) (B : Nat) (w : World) (xs : List Int) (v : Value) : Prop := w.ownsRow B e 1 v xs.length (xs.map K)
theorem rnum_g {w : World} {r : Nat} {A : Option Addr} {n c : Nat} {L : List UInt8} {a a1 : Nat} {x : Int} (h : RSt w r A n c L a) (hp : gInt L a = some (x, a1)) :
    Calls Try.prog 97 #[.pointer (some ⟨r, 0, none⟩)] w fun e w' => e = .returned (.int .i64 x) ∧ RSt w' r A n c L a1 ∧ Fr (fun i => i = r) w w' := by
  obtain ⟨k, rfl, hk⟩ := gInt_some hp
  exact rnum_yes h hk
theorem gInt_none {L : List UInt8} {a : Nat} (h : gInt L a = none) : pNum L a = none := by
  cases h1 : pNum L a with
  | none => rfl
  | some p => obtain ⟨k, b⟩ := p; rw [gInt_yes h1] at h; cases h
theorem rint_g {w : World} {r : Nat} {A : Option Addr} {n c : Nat} {L : List UInt8} {a a1 : Nat} {x : Int} (h : RSt w r A n c L a) (hp : gInt L a = some (x, a1)) :
    Calls Try.prog 95 #[.pointer (some ⟨r, 0, none⟩)] w fun e w' => e = .returned (.int .i64 x) ∧ RSt w' r A n c L a1 ∧ Fr (fun i => i = r) w w' := by
  obtain ⟨k, rfl, hk⟩ := gInt_some hp
  exact rint_yes h hk
theorem rhash_g {w : World} {r : Nat} {A : Option Addr} {n c : Nat} {L : List UInt8} {a a1 : Nat} {x : Int} (h : RSt w r A n c L a) (hp : gHash L a = some (x, a1)) :
    Calls Try.prog 103 #[.pointer (some ⟨r, 0, none⟩)] w fun e w' => e = .returned (.int .u64 x) ∧ RSt w' r A n c L a1 ∧ Fr (fun i => i = r) w w' := by
  have C := rhash_any h
  rw [hp] at C
  refine C.mono ?_
  rintro e w' ⟨v, rfl, rfl, h1, h2⟩
  exact ⟨rfl, h1, h2⟩
theorem rhash_no {w : World} {r : Nat} {A : Option Addr} {n c : Nat} {L : List UInt8} {a : Nat} (h : RSt w r A n c L a) (hp : gHash L a = none) :
    Calls Try.prog 103 #[.pointer (some ⟨r, 0, none⟩)] w fun e w' => e = wrongE ∧ Fr (fun i => i = r) w w' := by
  have C := rhash_any h
  rw [hp] at C
  exact C
set_option maxHeartbeats 2000000 in
set_option maxRecDepth 100000 in
theorem take_nums {w : World} {r : Nat} {A : Option Addr} {n c : Nat} {L : List UInt8} {a : Nat} (h : RSt w r A n c L a) (h9 : n ≤ 4000000000000) :
    Calls Try.prog 100 #[.pointer (some ⟨r, 0, none⟩), .func (.func 97) #[.pointer (some ⟨r, 0, none⟩)] #[]] w (ListAns (OwnI 2 (Value.int .i64) w.heap.size) w r A n c L (pTake gInt L a)) := by
  obtain ⟨i0, hi, hz0, hz1, hz2⟩ := info_parts Try.infoI64c
  cases h1 : pNum L a with
  | none =>
    have C1 := Lib.hid (rnum_no h h1)
    have HN := Lib.hid (pTake_no (p := gInt) h1)
    clear h h1
    go_enter Try.func100, Try.ntmps100
    go_wp2_with fail
    refine C1.out.mono ?_
    rintro e w1 ⟨rfl, f1⟩
    exact ⟨rfl, ListAns.no HN.out f1⟩
  | some p1 =>
    obtain ⟨m, a1⟩ := p1
    by_cases hmany : n - a1 < m
    · have HN := Lib.hid (pTake_many (p := gInt) h1 (by rw [h.len]; exact hmany))
      have C1 := Lib.hid (rnum_yes h h1)
      have HM := Lib.hid h1
      have hm := pNum_le h1
      have hn := h.size
      have hl := h.len
      have hcap := h.cap
      have HB := Lib.hid h.blk
      have hrl := h.lt
      clear h h1
      go_enter Try.func100, Try.ntmps100
      go_wp2_with fail
      refine C1.out.mono ?_
      rintro e w1 ⟨rfl, h1, f1⟩
      have H1 := Lib.hid h1
      have F1 := Lib.hid f1
      have X0 := Ext.cell h1.c0
      have X1 := Ext.cell h1.c1
      have hlc : (0 : Int) ≤ (n : Int) - (a1 : Int) := by omega
      have hws : IntKind.i64.wrap ((n : Int) - (a1 : Int)) = (n : Int) - (a1 : Int) := IntWalk.i64_in _ (by omega)
      clear h1 f1 C1
      have hq : decide ((m : Int) > (n : Int) - (a1 : Int)) = true := decide_eq_true (by omega)
      go_wp2_with fail
      refine wp_region_ext (by kernel_rfl) (by kernel_rfl) ?_
      repeat (go_big_quiet_step (fail))
      refine wpQuiet_nil ?_
      intro w2 hw2
      have b2 := ext_end hw2
      have H2 := Lib.hid (H1.out.move b2)
      have F2 := Lib.hid (F1.out.trans (Fr.of_below b2 (fp := fun i => i = r)) fun _ h => .inl h)
      clear hw2 X0 X1 b2 hws hlc H1 F1
      go_wp2
      exact ⟨rfl, ListAns.no HN.out F2.out⟩
    · have HT := Lib.hid (pTake_eq (p := gInt) h1 (by rw [h.len]; omega))
      have C1 := Lib.hid (rnum_yes h h1)
      have HM := Lib.hid h1
      have hm := pNum_le h1
      have hn := h.size
      have hl := h.len
      have hcap := h.cap
      have HB := Lib.hid h.blk
      have hrl := h.lt
      clear h h1
      go_enter Try.func100, Try.ntmps100
      go_wp2_with fail
      refine C1.out.mono ?_
      rintro e w1 ⟨rfl, h1, f1⟩
      have H1 := Lib.hid h1
      have F1 := Lib.hid f1
      have X0 := Ext.cell h1.c0
      have X1 := Ext.cell h1.c1
      have hlc : (0 : Int) ≤ (n : Int) - (a1 : Int) := by omega
      have hws : IntKind.i64.wrap ((n : Int) - (a1 : Int)) = (n : Int) - (a1 : Int) := IntWalk.i64_in _ (by omega)
      clear h1 f1 C1
      have hq : decide ((m : Int) > (n : Int) - (a1 : Int)) = false := decide_eq_false (by omega)
      go_wp2_with fail
      refine wp_region_ext (by kernel_rfl) (by kernel_rfl) ?_
      repeat (go_big_quiet_step (fail))
      refine wpQuiet_nil ?_
      intro w2 hw2
      have b2 := ext_end hw2
      have H2 := Lib.hid (H1.out.move b2)
      have F2 := Lib.hid (F1.out.trans (Fr.of_below b2 (fp := fun i => i = r)) fun _ h => .inl h)
      clear hw2 X0 X1 b2 hws hlc H1 F1
      clear hq
      go_wp2
      go_loopw [6, 24] (fun v i wr => ∃ (k a2 : Nat) (xs : List Int), i = .int .i64 (k : Int) ∧ k ≤ m ∧ Hid (pRep gInt L k a1 = some (xs, a2)) ∧ Hid (wr.ownsRow w.heap.size 2 1 v k (xs.map (Value.int .i64))) ∧ Hid (RSt wr r A n c L a2) ∧ Hid (Fr (fun i => i = r) w wr)) (fun _ i _ => m - (intOf i).toNat)
      case atStart => exact ⟨0, a1, [], rfl, Nat.zero_le _, rfl, World.ownsRow_nil _ _ _ _, H2, F2⟩
      case round =>
        obtain ⟨k, a2, xs, rfl, hk, HP, HO, HR, HF⟩ := hrel
        by_cases hlt : k < m
        · cases h3 : gInt L a2 with
          | none =>
            have C3 := Lib.hid (rnum_no HR.out (gInt_none h3))
            have HN := Lib.hid (HT.out.trans (pRep_stop HP.out h3 hlt))
            clear h3
            go_wp2_with fail
            refine C3.out.mono ?_
            rintro e w3 ⟨rfl, f3⟩
            exact ⟨rfl, ListAns.no HN.out (HF.out.trans f3 fun _ h => .inl h)⟩
          | some p3 =>
            obtain ⟨x, a3⟩ := p3
            have C3 := Lib.hid (rnum_g HR.out h3)
            have HS := Lib.hid (pRep_step HP.out h3)
            clear h3
            go_wp2_with (first
              | (go_at_call 97; refine C3.out.mono ?_; rintro e w3 ⟨rfl, h3, f3⟩; have F3 := HF.out.trans f3 fun _ h => .inl h; have hs3 := F3.size; have HX := Lib.hid (And.intro h3 (And.intro F3 (own_fr HO.out hrl f3))); clear h3 f3 F3)
              | (at_builtin; refine wpList_append_sl _ rfl (.tmp 26) (.tmp 29) 26 rfl (w.heap.size) 2 i0 (.int .i64 0) 1 8 Try.underlying26 hi hz0 hz1 hz2 rfl (by decide) (_) (k) (xs.map (Value.int .i64)) rfl ((HX.out.2.2.alloc _)) (some ⟨w3.heap.size, 0, none⟩) (1) (1) ([.int .i64 x]) rfl (sl_lit _ _ _ _ 1 1 _ rfl rfl rfl) ((by intro u hu; simp at hu; subst hu; rfl)) (by unfold maxLen; omega) (by omega) (by simp; omega) ?_)
              | fail)
            intro v4 w4 own4 g4 _
            have hG := HX.out.2.2.alloc (.cells #[.int .i64 x] 2)
            have b4 : Below w.heap.size w3 w4 := ((Below.refl _ w3).alloc hs3 _).grown g4 (by simp; omega) (fun q hq => (hG.lt q hq).1)
            have HF4 := Lib.hid (fr_grown (HX.out.2.1.trans (Fr.alloc (fun i => i = r) w3 _) fun _ h => .inl h) hG g4)
            have HR4 := Lib.hid (HX.out.1.moveB hrl HB.out b4)
            have HO4 := Lib.hid (show w4.ownsRow w.heap.size 2 1 v4 (k + 1) ((xs ++ [x]).map (Value.int .i64)) from by rw [List.map_append]; exact own4)
            clear own4 g4 hG b4
            go_wp2
            go_roundw
            case rel => exact ⟨k + 1, a3, _, by go_num, by omega, HS, HO4, HR4, HF4⟩
            case measure => simp [intOf]; omega
        · obtain rfl : k = m := by omega
          go_wp2
          go_ret
          exact ListAns.yes (HT.out.trans HP.out) (by have := HO.out; rw [← pRep_len _ HP.out] at this; exact this) HR.out HF.out
set_option maxHeartbeats 2000000 in
set_option maxRecDepth 100000 in
theorem take_ints {w : World} {r : Nat} {A : Option Addr} {n c : Nat} {L : List UInt8} {a : Nat} (h : RSt w r A n c L a) (h9 : n ≤ 4000000000000) :
    Calls Try.prog 101 #[.pointer (some ⟨r, 0, none⟩), .func (.func 95) #[.pointer (some ⟨r, 0, none⟩)] #[]] w (ListAns (OwnI 3 (Value.int .i64) w.heap.size) w r A n c L (pTake gInt L a)) := by
  obtain ⟨i0, hi, hz0, hz1, hz2⟩ := info_parts Try.infoIntc
  cases h1 : pNum L a with
  | none =>
    have C1 := Lib.hid (rnum_no h h1)
    have HN := Lib.hid (pTake_no (p := gInt) h1)
    clear h h1
    go_enter Try.func101, Try.ntmps101
    go_wp2_with fail
    refine C1.out.mono ?_
    rintro e w1 ⟨rfl, f1⟩
    exact ⟨rfl, ListAns.no HN.out f1⟩
  | some p1 =>
    obtain ⟨m, a1⟩ := p1
    by_cases hmany : n - a1 < m
    · have HN := Lib.hid (pTake_many (p := gInt) h1 (by rw [h.len]; exact hmany))
      have C1 := Lib.hid (rnum_yes h h1)
      have HM := Lib.hid h1
      have hm := pNum_le h1
      have hn := h.size
      have hl := h.len
      have hcap := h.cap
      have HB := Lib.hid h.blk
      have hrl := h.lt
      clear h h1
      go_enter Try.func101, Try.ntmps101
      go_wp2_with fail
      refine C1.out.mono ?_
      rintro e w1 ⟨rfl, h1, f1⟩
      have H1 := Lib.hid h1
      have F1 := Lib.hid f1
      have X0 := Ext.cell h1.c0
      have X1 := Ext.cell h1.c1
      have hlc : (0 : Int) ≤ (n : Int) - (a1 : Int) := by omega
      have hws : IntKind.i64.wrap ((n : Int) - (a1 : Int)) = (n : Int) - (a1 : Int) := IntWalk.i64_in _ (by omega)
      clear h1 f1 C1
      have hq : decide ((m : Int) > (n : Int) - (a1 : Int)) = true := decide_eq_true (by omega)
      go_wp2_with fail
      refine wp_region_ext (by kernel_rfl) (by kernel_rfl) ?_
      repeat (go_big_quiet_step (fail))
      refine wpQuiet_nil ?_
      intro w2 hw2
      have b2 := ext_end hw2
      have H2 := Lib.hid (H1.out.move b2)
      have F2 := Lib.hid (F1.out.trans (Fr.of_below b2 (fp := fun i => i = r)) fun _ h => .inl h)
      clear hw2 X0 X1 b2 hws hlc H1 F1
      go_wp2
      exact ⟨rfl, ListAns.no HN.out F2.out⟩
    · have HT := Lib.hid (pTake_eq (p := gInt) h1 (by rw [h.len]; omega))
      have C1 := Lib.hid (rnum_yes h h1)
      have HM := Lib.hid h1
      have hm := pNum_le h1
      have hn := h.size
      have hl := h.len
      have hcap := h.cap
      have HB := Lib.hid h.blk
      have hrl := h.lt
      clear h h1
      go_enter Try.func101, Try.ntmps101
      go_wp2_with fail
      refine C1.out.mono ?_
      rintro e w1 ⟨rfl, h1, f1⟩
      have H1 := Lib.hid h1
      have F1 := Lib.hid f1
      have X0 := Ext.cell h1.c0
      have X1 := Ext.cell h1.c1
      have hlc : (0 : Int) ≤ (n : Int) - (a1 : Int) := by omega
      have hws : IntKind.i64.wrap ((n : Int) - (a1 : Int)) = (n : Int) - (a1 : Int) := IntWalk.i64_in _ (by omega)
      clear h1 f1 C1
      have hq : decide ((m : Int) > (n : Int) - (a1 : Int)) = false := decide_eq_false (by omega)
      go_wp2_with fail
      refine wp_region_ext (by kernel_rfl) (by kernel_rfl) ?_
      repeat (go_big_quiet_step (fail))
      refine wpQuiet_nil ?_
      intro w2 hw2
      have b2 := ext_end hw2
      have H2 := Lib.hid (H1.out.move b2)
      have F2 := Lib.hid (F1.out.trans (Fr.of_below b2 (fp := fun i => i = r)) fun _ h => .inl h)
      clear hw2 X0 X1 b2 hws hlc H1 F1
      clear hq
      go_wp2
      go_loopw [6, 24] (fun v i wr => ∃ (k a2 : Nat) (xs : List Int), i = .int .i64 (k : Int) ∧ k ≤ m ∧ Hid (pRep gInt L k a1 = some (xs, a2)) ∧ Hid (wr.ownsRow w.heap.size 3 1 v k (xs.map (Value.int .i64))) ∧ Hid (RSt wr r A n c L a2) ∧ Hid (Fr (fun i => i = r) w wr)) (fun _ i _ => m - (intOf i).toNat)
      case atStart => exact ⟨0, a1, [], rfl, Nat.zero_le _, rfl, World.ownsRow_nil _ _ _ _, H2, F2⟩
      case round =>
        obtain ⟨k, a2, xs, rfl, hk, HP, HO, HR, HF⟩ := hrel
        by_cases hlt : k < m
        · cases h3 : gInt L a2 with
          | none =>
            have C3 := Lib.hid (rint_no HR.out (gInt_none h3))
            have HN := Lib.hid (HT.out.trans (pRep_stop HP.out h3 hlt))
            clear h3
            go_wp2_with fail
            refine C3.out.mono ?_
            rintro e w3 ⟨rfl, f3⟩
            exact ⟨rfl, ListAns.no HN.out (HF.out.trans f3 fun _ h => .inl h)⟩
          | some p3 =>
            obtain ⟨x, a3⟩ := p3
            have C3 := Lib.hid (rint_g HR.out h3)
            have HS := Lib.hid (pRep_step HP.out h3)
            clear h3
            go_wp2_with (first
              | (go_at_call 95; refine C3.out.mono ?_; rintro e w3 ⟨rfl, h3, f3⟩; have F3 := HF.out.trans f3 fun _ h => .inl h; have hs3 := F3.size; have HX := Lib.hid (And.intro h3 (And.intro F3 (own_fr HO.out hrl f3))); clear h3 f3 F3)
              | (at_builtin; refine wpList_append_sl _ rfl (.tmp 26) (.tmp 29) 27 rfl (w.heap.size) 3 i0 (.int .i64 0) 1 8 Try.underlying27 hi hz0 hz1 hz2 rfl (by decide) (_) (k) (xs.map (Value.int .i64)) rfl ((HX.out.2.2.alloc _)) (some ⟨w3.heap.size, 0, none⟩) (1) (1) ([.int .i64 x]) rfl (sl_lit _ _ _ _ 1 1 _ rfl rfl rfl) ((by intro u hu; simp at hu; subst hu; rfl)) (by unfold maxLen; omega) (by omega) (by simp; omega) ?_)
              | fail)
            intro v4 w4 own4 g4 _
            have hG := HX.out.2.2.alloc (.cells #[.int .i64 x] 3)
            have b4 : Below w.heap.size w3 w4 := ((Below.refl _ w3).alloc hs3 _).grown g4 (by simp; omega) (fun q hq => (hG.lt q hq).1)
            have HF4 := Lib.hid (fr_grown (HX.out.2.1.trans (Fr.alloc (fun i => i = r) w3 _) fun _ h => .inl h) hG g4)
            have HR4 := Lib.hid (HX.out.1.moveB hrl HB.out b4)
            have HO4 := Lib.hid (show w4.ownsRow w.heap.size 3 1 v4 (k + 1) ((xs ++ [x]).map (Value.int .i64)) from by rw [List.map_append]; exact own4)
            clear own4 g4 hG b4
            go_wp2
            go_roundw
            case rel => exact ⟨k + 1, a3, _, by go_num, by omega, HS, HO4, HR4, HF4⟩
            case measure => simp [intOf]; omega
        · obtain rfl : k = m := by omega
          go_wp2
          go_ret
          exact ListAns.yes (HT.out.trans HP.out) (by have := HO.out; rw [← pRep_len _ HP.out] at this; exact this) HR.out HF.out
set_option maxHeartbeats 2000000 in
set_option maxRecDepth 100000 in
theorem take_hashes {w : World} {r : Nat} {A : Option Addr} {n c : Nat} {L : List UInt8} {a : Nat} (h : RSt w r A n c L a) (h9 : n ≤ 4000000000000) :
    Calls Try.prog 102 #[.pointer (some ⟨r, 0, none⟩), .func (.func 103) #[.pointer (some ⟨r, 0, none⟩)] #[]] w (ListAns (OwnI 86 (Value.int .u64) w.heap.size) w r A n c L (pTake gHash L a)) := by
  obtain ⟨i0, hi, hz0, hz1, hz2⟩ := info_parts Try.infoU64c
  cases h1 : pNum L a with
  | none =>
    have C1 := Lib.hid (rnum_no h h1)
    have HN := Lib.hid (pTake_no (p := gHash) h1)
    clear h h1
    go_enter Try.func102, Try.ntmps102
    go_wp2_with fail
    refine C1.out.mono ?_
    rintro e w1 ⟨rfl, f1⟩
    exact ⟨rfl, ListAns.no HN.out f1⟩
  | some p1 =>
    obtain ⟨m, a1⟩ := p1
    by_cases hmany : n - a1 < m
    · have HN := Lib.hid (pTake_many (p := gHash) h1 (by rw [h.len]; exact hmany))
      have C1 := Lib.hid (rnum_yes h h1)
      have HM := Lib.hid h1
      have hm := pNum_le h1
      have hn := h.size
      have hl := h.len
      have hcap := h.cap
      have HB := Lib.hid h.blk
      have hrl := h.lt
      clear h h1
      go_enter Try.func102, Try.ntmps102
      go_wp2_with fail
      refine C1.out.mono ?_
      rintro e w1 ⟨rfl, h1, f1⟩
      have H1 := Lib.hid h1
      have F1 := Lib.hid f1
      have X0 := Ext.cell h1.c0
      have X1 := Ext.cell h1.c1
      have hlc : (0 : Int) ≤ (n : Int) - (a1 : Int) := by omega
      have hws : IntKind.i64.wrap ((n : Int) - (a1 : Int)) = (n : Int) - (a1 : Int) := IntWalk.i64_in _ (by omega)
      clear h1 f1 C1
      have hq : decide ((m : Int) > (n : Int) - (a1 : Int)) = true := decide_eq_true (by omega)
      go_wp2_with fail
      refine wp_region_ext (by kernel_rfl) (by kernel_rfl) ?_
      repeat (go_big_quiet_step (fail))
      refine wpQuiet_nil ?_
      intro w2 hw2
      have b2 := ext_end hw2
      have H2 := Lib.hid (H1.out.move b2)
      have F2 := Lib.hid (F1.out.trans (Fr.of_below b2 (fp := fun i => i = r)) fun _ h => .inl h)
      clear hw2 X0 X1 b2 hws hlc H1 F1
      go_wp2
      exact ⟨rfl, ListAns.no HN.out F2.out⟩
    · have HT := Lib.hid (pTake_eq (p := gHash) h1 (by rw [h.len]; omega))
      have C1 := Lib.hid (rnum_yes h h1)
      have HM := Lib.hid h1
      have hm := pNum_le h1
      have hn := h.size
      have hl := h.len
      have hcap := h.cap
      have HB := Lib.hid h.blk
      have hrl := h.lt
      clear h h1
      go_enter Try.func102, Try.ntmps102
      go_wp2_with fail
      refine C1.out.mono ?_
      rintro e w1 ⟨rfl, h1, f1⟩
      have H1 := Lib.hid h1
      have F1 := Lib.hid f1
      have X0 := Ext.cell h1.c0
      have X1 := Ext.cell h1.c1
      have hlc : (0 : Int) ≤ (n : Int) - (a1 : Int) := by omega
      have hws : IntKind.i64.wrap ((n : Int) - (a1 : Int)) = (n : Int) - (a1 : Int) := IntWalk.i64_in _ (by omega)
      clear h1 f1 C1
      have hq : decide ((m : Int) > (n : Int) - (a1 : Int)) = false := decide_eq_false (by omega)
      go_wp2_with fail
      refine wp_region_ext (by kernel_rfl) (by kernel_rfl) ?_
      repeat (go_big_quiet_step (fail))
      refine wpQuiet_nil ?_
      intro w2 hw2
      have b2 := ext_end hw2
      have H2 := Lib.hid (H1.out.move b2)
      have F2 := Lib.hid (F1.out.trans (Fr.of_below b2 (fp := fun i => i = r)) fun _ h => .inl h)
      clear hw2 X0 X1 b2 hws hlc H1 F1
      clear hq
      go_wp2
      go_loopw [6, 24] (fun v i wr => ∃ (k a2 : Nat) (xs : List Int), i = .int .i64 (k : Int) ∧ k ≤ m ∧ Hid (pRep gHash L k a1 = some (xs, a2)) ∧ Hid (wr.ownsRow w.heap.size 86 1 v k (xs.map (Value.int .u64))) ∧ Hid (RSt wr r A n c L a2) ∧ Hid (Fr (fun i => i = r) w wr)) (fun _ i _ => m - (intOf i).toNat)
      case atStart => exact ⟨0, a1, [], rfl, Nat.zero_le _, rfl, World.ownsRow_nil _ _ _ _, H2, F2⟩
      case round =>
        obtain ⟨k, a2, xs, rfl, hk, HP, HO, HR, HF⟩ := hrel
        by_cases hlt : k < m
        · cases h3 : gHash L a2 with
          | none =>
            have C3 := Lib.hid (rhash_no HR.out h3)
            have HN := Lib.hid (HT.out.trans (pRep_stop HP.out h3 hlt))
            clear h3
            go_wp2_with fail
            refine C3.out.mono ?_
            rintro e w3 ⟨rfl, f3⟩
            exact ⟨rfl, ListAns.no HN.out (HF.out.trans f3 fun _ h => .inl h)⟩
          | some p3 =>
            obtain ⟨x, a3⟩ := p3
            have C3 := Lib.hid (rhash_g HR.out h3)
            have HS := Lib.hid (pRep_step HP.out h3)
            clear h3
            go_wp2_with (first
              | (go_at_call 103; refine C3.out.mono ?_; rintro e w3 ⟨rfl, h3, f3⟩; have F3 := HF.out.trans f3 fun _ h => .inl h; have hs3 := F3.size; have HX := Lib.hid (And.intro h3 (And.intro F3 (own_fr HO.out hrl f3))); clear h3 f3 F3)
              | (at_builtin; refine wpList_append_sl _ rfl (.tmp 26) (.tmp 29) 28 rfl (w.heap.size) 86 i0 (.int .u64 0) 1 8 Try.underlying28 hi hz0 hz1 hz2 rfl (by decide) (_) (k) (xs.map (Value.int .u64)) rfl ((HX.out.2.2.alloc _)) (some ⟨w3.heap.size, 0, none⟩) (1) (1) ([.int .u64 x]) rfl (sl_lit _ _ _ _ 1 1 _ rfl rfl rfl) ((by intro u hu; simp at hu; subst hu; rfl)) (by unfold maxLen; omega) (by omega) (by simp; omega) ?_)
              | fail)
            intro v4 w4 own4 g4 _
            have hG := HX.out.2.2.alloc (.cells #[.int .u64 x] 86)
            have b4 : Below w.heap.size w3 w4 := ((Below.refl _ w3).alloc hs3 _).grown g4 (by simp; omega) (fun q hq => (hG.lt q hq).1)
            have HF4 := Lib.hid (fr_grown (HX.out.2.1.trans (Fr.alloc (fun i => i = r) w3 _) fun _ h => .inl h) hG g4)
            have HR4 := Lib.hid (HX.out.1.moveB hrl HB.out b4)
            have HO4 := Lib.hid (show w4.ownsRow w.heap.size 86 1 v4 (k + 1) ((xs ++ [x]).map (Value.int .u64)) from by rw [List.map_append]; exact own4)
            clear own4 g4 hG b4
            go_wp2
            go_roundw
            case rel => exact ⟨k + 1, a3, _, by go_num, by omega, HS, HO4, HR4, HF4⟩
            case measure => simp [intOf]; omega
        · obtain rfl : k = m := by omega
          go_wp2
          go_ret
          exact ListAns.yes (HT.out.trans HP.out) (by have := HO.out; rw [← pRep_len _ HP.out] at this; exact this) HR.out HF.out
end Go.Proofs.Ytgnedaihchmoaaa
