/-
  firth/code.take at spans.
-/
import Derived.Test.YtlhcohpcjleekaaCodeReadSpan
import Derived.Deep.LoopGhost
namespace Go.Proofs.Ytlhcohpcjleekaa
open Go.RowKit
set_option linter.unusedVariables false

theorem RSt.moveB {w1 w2 : World} {r : Nat} {A : Option Addr} {n c : Nat} {L : List UInt8} {a : Nat} (h : RSt w1 r A n c L a) {B : Nat} (hr : r < B) (hA : ∀ b' off s, 0 < n → A = some ⟨b', off, s⟩ → b' < B) (b : Below B w1 w2) : RSt w2 r A n c L a :=
  ⟨(b.block r hr).trans h.box, Sl.keepB h.sl fun b' off hn e => b.block b' (hA b' off none (by omega) e), h.far, h.le, h.cap, h.size⟩
/-- A row of the call's own stays behind a reading. -/
theorem own_fr {w w1 w2 : World} {r : Nat} {e : TypeId} {sz : Nat} {v : Value} {n : Nat} {xs : List Value} (h : w1.ownsRow w.heap.size e sz v n xs) (hr : r < w.heap.size) (f : Fr (fun i => i = r) w1 w2) : w2.ownsRow w.heap.size e sz v n xs :=
  own_keep (fp := fun i => w.heap.size ≤ i) h (fun g hg => (h.lt g hg).1) (f.kept fun i hi e => by have hi2 : w.heap.size ≤ i := hi; omega)
theorem fr_grown {w w1 w2 : World} {r : Nat} {e : TypeId} {sz : Nat} {v : Value} {n : Nat} {xs : List Value} (f : Fr (fun i => i = r) w w1) (h : w1.ownsRow w.heap.size e sz v n xs) (g : w1.grownBy w2 v.ownBlock) : Fr (fun i => i = r) w w2 :=
  f.trans (Fr.of_grown g) fun i hi => .inr (h.lt i hi.symm).1
/-- What a reader of a list answers; R: what its value is. -/
def ListAns {α : Type} (R : World → List α → Value → Prop) (w : World) (r : Nat) (A : Option Addr) (n c : Nat) (L : List UInt8) (o : Option (List α × Nat)) (e : Ending) (w' : World) : Prop :=
  match o with
  | some (xs, a) => ∃ v, e = .returned v ∧ R w' xs v ∧ RSt w' r A n c L a ∧ Fr (fun i => i = r) w w'
  | none => e = wrongE ∧ Fr (fun i => i = r) w w'
section
variable {α : Type} {R : World → List α → Value → Prop} {w : World} {r : Nat} {A : Option Addr} {n c : Nat} {L : List UInt8} {o : Option (List α × Nat)} {w' : World}
theorem ListAns.no (ho : o = none) (h : Fr (fun i => i = r) w w') : ListAns R w r A n c L o wrongE w' := by rw [ho]; exact ⟨rfl, h⟩
theorem ListAns.yes {xs : List α} {a : Nat} {v : Value} (ho : o = some (xs, a)) (hv : R w' xs v) (h : RSt w' r A n c L a) (hf : Fr (fun i => i = r) w w') : ListAns R w r A n c L o (.returned v) w' := by rw [ho]; exact ⟨v, rfl, hv, h, hf⟩
end
/-- Spans in a row from a block on. -/
def OwnS (B : Nat) (w : World) (xs : List Sp) (v : Value) : Prop := w.ownsRow B 45 3 v xs.length (spV xs)
set_option maxHeartbeats 2000000 in
set_option maxRecDepth 100000 in
theorem take_spans {w : World} {r : Nat} {A : Option Addr} {n c : Nat} {L : List UInt8} {a : Nat} (h : RSt w r A n c L a) (h9 : n ≤ 4000000000000) :
    Calls Try.prog 40 #[.pointer (some ⟨r, 0, none⟩), .func (.func 41) #[.pointer (some ⟨r, 0, none⟩)] #[]] w (ListAns (OwnS w.heap.size) w r A n c L (pTake (gSpan okP) L a)) := by
  obtain ⟨i0, hi, hz0, hz1, hz2⟩ := info_parts Try.infoSpan
  cases h1 : pNum L a with
  | none =>
    have C1 := Lib.hid (rnum_no h h1)
    have HN := Lib.hid (pTake_no (p := gSpan okP) h1)
    clear h h1
    go_enter Try.func40, Try.ntmps40
    go_wp2_with fail
    refine C1.out.mono ?_
    rintro e w1 ⟨rfl, f1⟩
    exact ⟨rfl, ListAns.no HN.out f1⟩
  | some p1 =>
    obtain ⟨m, a1⟩ := p1
    by_cases hmany : n - a1 < m
    · have HN := Lib.hid (pTake_many (p := gSpan okP) h1 (by rw [h.len]; exact hmany))
      have C1 := Lib.hid (rnum_yes h h1)
      have HM := Lib.hid h1
      have hm := pNum_le h1
      have hn := h.size
      have hl := h.len
      have hcap := h.cap
      have HB := Lib.hid h.blk
      have hrl := h.lt
      clear h h1
      go_enter Try.func40, Try.ntmps40
      go_wp2_with fail
      refine C1.out.mono ?_
      rintro e w1 ⟨rfl, h1, f1⟩
      have H1 := Lib.hid h1
      have F1 := Lib.hid f1
      have X0 := Ext.cell h1.c0
      have X1 := Ext.cell h1.c1
      have hlc : (0 : Int) ≤ (n : Int) - (a1 : Int) := by omega
      have hws : IntKind.i64.wrap ((n : Int) - (a1 : Int)) = (n : Int) - (a1 : Int) := IntWalk.i64_in _ (by omega)
      clear h1 f1 C1
      have hq : decide ((m : Int) > (n : Int) - (a1 : Int)) = true := decide_eq_true (by omega)
      go_wp2_with fail
      refine wp_region_ext (by kernel_rfl) (by kernel_rfl) ?_
      repeat (go_big_quiet_step (fail))
      refine wpQuiet_nil ?_
      intro w2 hw2
      have b2 := ext_end hw2
      have H2 := Lib.hid (H1.out.move b2)
      have F2 := Lib.hid (F1.out.trans (Fr.of_below b2 (fp := fun i => i = r)) fun _ h => .inl h)
      clear hw2 X0 X1 b2 hws hlc H1 F1
      go_wp2
      exact ⟨rfl, ListAns.no HN.out F2.out⟩
    · have HT := Lib.hid (pTake_eq (p := gSpan okP) h1 (by rw [h.len]; omega))
      have C1 := Lib.hid (rnum_yes h h1)
      have HM := Lib.hid h1
      have hm := pNum_le h1
      have hn := h.size
      have hl := h.len
      have hcap := h.cap
      have HB := Lib.hid h.blk
      have hrl := h.lt
      clear h h1
      go_enter Try.func40, Try.ntmps40
      go_wp2_with fail
      refine C1.out.mono ?_
      rintro e w1 ⟨rfl, h1, f1⟩
      have H1 := Lib.hid h1
      have F1 := Lib.hid f1
      have X0 := Ext.cell h1.c0
      have X1 := Ext.cell h1.c1
      have hlc : (0 : Int) ≤ (n : Int) - (a1 : Int) := by omega
      have hws : IntKind.i64.wrap ((n : Int) - (a1 : Int)) = (n : Int) - (a1 : Int) := IntWalk.i64_in _ (by omega)
      clear h1 f1 C1
      have hq : decide ((m : Int) > (n : Int) - (a1 : Int)) = false := decide_eq_false (by omega)
      go_wp2_with fail
      refine wp_region_ext (by kernel_rfl) (by kernel_rfl) ?_
      repeat (go_big_quiet_step (fail))
      refine wpQuiet_nil ?_
      intro w2 hw2
      have b2 := ext_end hw2
      have H2 := Lib.hid (H1.out.move b2)
      have F2 := Lib.hid (F1.out.trans (Fr.of_below b2 (fp := fun i => i = r)) fun _ h => .inl h)
      clear hw2 X0 X1 b2 hws hlc H1 F1
      clear hq
      go_wp2
      go_loopw [6, 24] (fun v i wr => ∃ (k a2 : Nat) (xs : List Sp), i = .int .i64 (k : Int) ∧ k ≤ m ∧ Hid (pRep (gSpan okP) L k a1 = some (xs, a2)) ∧ Hid (wr.ownsRow w.heap.size 45 3 v k (spV xs)) ∧ Hid (RSt wr r A n c L a2) ∧ Hid (Fr (fun i => i = r) w wr)) (fun _ i _ => m - (intOf i).toNat)
      case atStart => exact ⟨0, a1, [], rfl, Nat.zero_le _, rfl, World.ownsRow_nil _ _ _ _, H2, F2⟩
      case round =>
        obtain ⟨k, a2, xs, rfl, hk, HP, HO, HR, HF⟩ := hrel
        by_cases hlt : k < m
        · cases h3 : gSpan okP L a2 with
          | none =>
            have C3 := Lib.hid (show Calls _ _ _ wr (SpanAns wr r A n c L none) from by rw [← h3]; exact rspan_any HR.out)
            have HN := Lib.hid (HT.out.trans (pRep_stop HP.out h3 hlt))
            clear h3
            go_wp2_with fail
            refine C3.out.mono ?_
            rintro e w3 ⟨rfl, f3⟩
            exact ⟨rfl, ListAns.no HN.out (HF.out.trans f3 fun _ h => .inl h)⟩
          | some p3 =>
            obtain ⟨x, a3⟩ := p3
            have C3 := Lib.hid (show Calls _ _ _ wr (SpanAns wr r A n c L (some (x, a3))) from by rw [← h3]; exact rspan_any HR.out)
            have HS := Lib.hid (pRep_step HP.out h3)
            clear h3
            obtain ⟨x0, x1, x2⟩ := x
            go_wp2_with (first
              | (go_at_call 41; refine C3.out.mono ?_; rintro e w3 ⟨rfl, h3, f3⟩; have F3 := HF.out.trans f3 fun _ h => .inl h; have hs3 := F3.size; have HX := Lib.hid (And.intro h3 (And.intro F3 (own_fr HO.out hrl f3))); clear h3 f3 F3; unfold spA)
              | (at_builtin; refine wpList_append_sl _ rfl (.tmp 26) (.tmp 29) 24 rfl (w.heap.size) 45 i0 (.agg #[.int .i64 0, .int .i64 0, .int .i64 0]) 3 24 Try.underlying24 hi hz0 hz1 hz2 rfl (by decide) (_) (k) (spV xs) rfl ((HX.out.2.2.alloc _)) (some ⟨w3.heap.size, 0, none⟩) (1) (1) ([.int .i64 x0, .int .i64 x1, .int .i64 x2]) rfl (sl_lit _ _ _ _ 1 3 _ rfl rfl rfl) ((spV_one [(x0, x1, x2)])) (by unfold maxLen; omega) (by omega) (by simp; omega) ?_)
              | fail)
            intro v4 w4 own4 g4 _
            have hG := HX.out.2.2.alloc (.cells #[.int .i64 x0, .int .i64 x1, .int .i64 x2] 45)
            have b4 : Below w.heap.size w3 w4 := ((Below.refl _ w3).alloc hs3 _).grown g4 (by simp; omega) (fun q hq => (hG.lt q hq).1)
            have HF4 := Lib.hid (fr_grown (HX.out.2.1.trans (Fr.alloc (fun i => i = r) w3 _) fun _ h => .inl h) hG g4)
            have HR4 := Lib.hid (HX.out.1.moveB hrl HB.out b4)
            have HO4 := Lib.hid (show w4.ownsRow w.heap.size 45 3 v4 (k + 1) (spV (xs ++ [(x0, x1, x2)])) from by rw [spV_append]; exact own4)
            clear own4 g4 hG b4
            go_wp2
            go_roundw
            case rel => exact ⟨k + 1, a3, _, by go_num, by omega, HS, HO4, HR4, HF4⟩
            case measure => simp [intOf]; omega
        · obtain rfl : k = m := by omega
          go_wp2
          go_ret
          exact ListAns.yes (HT.out.trans HP.out) (by have := HO.out; rw [← pRep_len _ HP.out] at this; exact this) HR.out HF.out
end Go.Proofs.Ytlhcohpcjleekaa
