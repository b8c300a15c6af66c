/-
  firth/inbox: a write in memory of its own.
-/
import Derived.Test.YtilagblpamhmkaaInboxState
import Derived.Test.YtilagblpamhmkaaCloneI
namespace Go.Proofs.Ytilagblpamhmkaa
open Go.RowKit
set_option linter.unusedVariables false

theorem Try.infoFarSize : (Try.prog.info? 35).map (·.size) = some 5 := by kernel_rfl
/-- Five cells of a block are written. -/
def set5 (w : World) (g : Nat) (v0 v1 v2 v3 v4 : Value) : World := ((((w.setCell ⟨g, 0, none⟩ v0).setCell ⟨g, 1, none⟩ v1).setCell ⟨g, 2, none⟩ v2).setCell ⟨g, 3, none⟩ v3).setCell ⟨g, 4, none⟩ v4
section
variable {w : World} {g : Nat} {v0 v1 v2 v3 v4 : Value}
theorem set5_heap {a0 a1 a2 a3 a4 : Value} {t : TypeId} (h : w.heap[g]? = some (.cells #[a0, a1, a2, a3, a4] t (0, 0))) : (set5 w g v0 v1 v2 v3 v4).heap[g]? = some (.cells #[v0, v1, v2, v3, v4] t (0, 0)) := by
  unfold set5
  rw [heap_setCell_same _ g 4 _ _ _ (heap_setCell_same _ g 3 _ _ _ (heap_setCell_same _ g 2 _ _ _ (heap_setCell_same _ g 1 _ _ _ (heap_setCell_same _ g 0 _ _ _ h))))]
  rfl
theorem set5_fr : Fr (fun i => i = g) w (set5 w g v0 v1 v2 v3 v4) :=
  ((((Fr.set w ⟨g, 0, none⟩ _).trans (Fr.set _ ⟨g, 1, none⟩ _) (fun _ h => .inl h)).trans (Fr.set _ ⟨g, 2, none⟩ _) (fun _ h => .inl h)).trans (Fr.set _ ⟨g, 3, none⟩ _) (fun _ h => .inl h)).trans (Fr.set _ ⟨g, 4, none⟩ _) (fun _ h => .inl h)
end
theorem own_keepI {w1 w2 : World} {B : Nat} {FP : Nat → Prop} {e : TypeId} {sz n : Nat} {v : Value} {xs : List Value} (h : w1.ownsRow B e sz v n xs) (f : Fr FP w1 w2) (hf : ∀ i, B ≤ i → ¬ FP i) : w2.ownsRow B e sz v n xs :=
  own_keep (fp := fun i => B ≤ i) h (fun g hg => (h.lt g hg).1) (f.kept fun i hi e => hf i hi e)
theorem OwnV.keepI {w1 w2 : World} {B : Nat} {FP : Nat → Prop} {n : Nat} {v : Value} {rows : List RV} (h : OwnV w1 B v n rows) (f : Fr FP w1 w2) (hf : ∀ i, B ≤ i → ¬ FP i) : OwnV w2 B v n rows :=
  ⟨own_keepI h.1 f hf, fun y hy => ⟨own_keepI (h.2 y hy).1 f hf, (h.2 y hy).2⟩⟩
/-- A far write in memory of its own. -/
def NewFa (w : World) (f : Fa) (e : Ending) (w' : World) : Prop :=
  ∃ (A : Option Addr) (c : Nat) (A2 : Option Addr) (n2 c2 : Nat), e = .returned (.agg #[.int .i64 f.src, .int .i64 f.seq, .string f.rc.key, .slice A f.rc.vers.length c, .slice A2 n2 c2]) ∧
    (∃ rows : List RV, rows.map (·.1) = f.rc.vers ∧ OwnV w' w.heap.size (.slice A f.rc.vers.length c) f.rc.vers.length rows) ∧ f.rc.vers.length ≤ c ∧ f.route.length = n2 ∧ n2 ≤ c2 ∧ w'.ownsRow w.heap.size 3 1 (.slice A2 n2 c2) n2 (f.route.map (Value.int .i64)) ∧ Below w.heap.size w w'
set_option maxHeartbeats 4000000 in
set_option maxRecDepth 100000 in
theorem ownF_any (w : World) (f : Fa) (A : Option Addr) (n c : Nat) (A2 : Option Addr) (n2 c2 : Nat) (hv : RRow w f.rc A n c) (hr : Sl w A2 n2 1 (f.route.map (Value.int .i64))) (hc2 : n2 ≤ c2) (hn2 : n2 * 8 ≤ 140737488351232) (hf : rightR f.rc = true) :
    Calls Try.prog 37 #[.agg #[.int .i64 f.src, .int .i64 f.seq, .string f.rc.key, .slice A n c, .slice A2 n2 c2]] w (NewFa w f) := by
  obtain ⟨src, seq, ⟨key, vers⟩, route⟩ := f
  simp only at hv hr hf ⊢
  have bA : Below w.heap.size w ((w.alloc (.cells #[.int .i64 src, .int .i64 seq, .string key, .slice A n c, .slice A2 n2 c2] 35)).alloc (.cells #[.int .i64 0, .int .i64 0, .string ⟨#[]⟩, .slice none 0 0, .slice none 0 0] 35)) := ((Below.refl _ _).alloc (Nat.le_refl _) _).alloc (by simp) _
  have kA := (Below.heap_alloc (w.alloc (.cells #[.int .i64 src, .int .i64 seq, .string key, .slice A n c, .slice A2 n2 c2] 35)) (.cells #[.int .i64 0, .int .i64 0, .string ⟨#[]⟩, .slice none 0 0, .slice none 0 0] 35) w.heap.size (by simp)).trans (heap_alloc_new w (.cells #[.int .i64 src, .int .i64 seq, .string key, .slice A n c, .slice A2 n2 c2] 35))
  have kB := heap_alloc_new (w.alloc (.cells #[.int .i64 src, .int .i64 seq, .string key, .slice A n c, .slice A2 n2 c2] 35)) (.cells #[.int .i64 0, .int .i64 0, .string ⟨#[]⟩, .slice none 0 0, .slice none 0 0] 35)
  rw [show (w.alloc (.cells #[.int .i64 src, .int .i64 seq, .string key, .slice A n c, .slice A2 n2 c2] 35)).heap.size = w.heap.size + 1 by simp] at kB
  have c1 := putRec_any _ ⟨key, vers⟩ A n c (hv.below bA)
  have e1 : putRecE ⟨key, vers⟩ = (recB ⟨key, vers⟩, 0) := by unfold putRecE; rw [if_pos hf]
  rw [e1] at c1
  obtain ⟨T, hT⟩ : ∃ T, recB ⟨key, vers⟩ = T := ⟨_, rfl⟩
  have hTl : T.length ≤ 14336050 := by rw [← hT]; exact recB_len hf
  have hTr : recR okP T = some ⟨key, vers⟩ := (recR_iff okP_small T ⟨key, vers⟩).2 ⟨hf, hT.symm⟩
  rw [hT] at c1
  have C1 := Lib.hid c1
  have HTR := Lib.hid hTr
  have HTL := Lib.hid hTl
  have HA := Lib.hid bA
  have HK := Lib.hid (And.intro kA kB)
  have HRT := Lib.hid (Sl.below hr bA)
  have HRB := Lib.hid (fun (b off : Nat) (s : Option Nat) (hn : 0 < n2) (e : A2 = some ⟨b, off, s⟩) => Sl.blk_lt hr (b := b) (off := off) (s := s) (by omega) e)
  clear c1 e1 hT hTl hTr bA kA kB hv hr hf
  go_enter Try.func37, Try.ntmps37
  go_wp2_with fail
  refine C1.out.mono ?_
  rintro e w1 ⟨A1, n1, c1, rfl, s1, hc1, -, b1, -⟩
  have hn1 : n1 ≤ 14336050 := by have := s1.len; have := HTL.out; omega
  have c2 := rec_any w1 A1 n1 c1 T s1 hc1 (by omega)
  rw [HTR.out] at c2
  have C2 := Lib.hid c2
  have HA1 := Lib.hid (HA.out.trans (b1.mono HA.out.size))
  have HK1 := Lib.hid (And.intro ((b1.block _ (lt_of_block HK.out.1)).trans HK.out.1) ((b1.block _ (lt_of_block HK.out.2)).trans HK.out.2))
  have HR1 := Lib.hid (Sl.below HRT.out b1)
  clear c2 b1 s1 C1 HA HK HRT
  go_wp2_with fail
  refine C2.out.mono ?_
  rintro e w2 ⟨v, rfl, ⟨rows, A3, c3, rfl, hrw, hov, hc3, -, -⟩, b2⟩
  simp only at hrw hov hc3
  have k1 := (b2.block _ (lt_of_block HK1.out.1)).trans HK1.out.1
  have k2 := (b2.block _ (lt_of_block HK1.out.2)).trans HK1.out.2
  have x2 := row_cell (j := 2) k1 rfl
  have x3 := row_cell (j := 3) k1 rfl
  have x4 := row_cell (j := 4) k1 rfl
  have f2 := frozen_of_row w2 w.heap.size 2 _ _ k1
  have f3 := frozen_of_row w2 w.heap.size 3 _ _ k1
  have hl1 := lt_of_block HK1.out.2
  have hl2 := lt_of_block k2
  have hA1 := HA1.out.size
  have F3 : Fr (fun i => i = w.heap.size ∨ i = w.heap.size + 1) w2 ((w2.setCell ⟨w.heap.size, 2, none⟩ (.string key)).setCell ⟨w.heap.size, 3, none⟩ (.slice A3 vers.length c3)) :=
    ((Fr.set w2 ⟨w.heap.size, 2, none⟩ _).mono (fun i hi => .inl (.inl hi))).trans (Fr.set _ ⟨w.heap.size, 3, none⟩ _) (fun i hi => .inl (.inl hi))
  have hsl : Sl ((w2.setCell ⟨w.heap.size, 2, none⟩ (.string key)).setCell ⟨w.heap.size, 3, none⟩ (.slice A3 vers.length c3)) A2 n2 1 (route.map (Value.int .i64)) :=
    Sl.keepB (Sl.below HR1.out b2) fun b' off hn e => F3.block b' (by have := HRB.out b' off none (by omega) e; have := b2.size; omega) (by have := HRB.out b' off none (by omega) e; omega)
  have C3 := Lib.hid (cloneI_any A2 n2 c2 route _ hsl hc2 hn2)
  have k13 := heap_setCell_same _ w.heap.size 3 _ _ (.slice A3 vers.length c3) (heap_setCell_same w2 w.heap.size 2 _ _ (.string key) k1)
  have k23 : ((w2.setCell ⟨w.heap.size, 2, none⟩ (.string key)).setCell ⟨w.heap.size, 3, none⟩ (.slice A3 vers.length c3)).heap[w.heap.size + 1]? = _ := (Below.heap_setCell _ ⟨w.heap.size, 3, none⟩ (.slice A3 vers.length c3) (w.heap.size + 1) (by simp)).trans ((Below.heap_setCell w2 ⟨w.heap.size, 2, none⟩ (.string key) (w.heap.size + 1) (by simp)).trans k2)
  have z4 := row_cell (j := 4) k13 rfl
  have HK3 := Lib.hid (And.intro k13 k23)
  have HO3 := Lib.hid (hov.keepI F3 (fun i hi e => by omega))
  have HB3 := Lib.hid (show Below w.heap.size w _ from (HA1.out.trans (b2.mono hA1)).trans (F3.below (B := w.heap.size) (fun i hi => by omega) (by have := b2.size; omega)))
  have HRW := Lib.hid hrw
  have hs3 := F3.size
  have hsb2 := b2.size
  clear k1 k2 k13 k23 F3 hsl hov hrw b2 C2 HA1 HK1 HR1 HRB
  go_wp2_with fail
  refine C3.out.mono ?_
  rintro e w4 ⟨A4, n4, c4, rfl, hl4, hc4, o4, b4⟩
  have k1 := (b4.block _ (lt_of_block HK3.out.1)).trans HK3.out.1
  have k2 := (b4.block _ (lt_of_block HK3.out.2)).trans HK3.out.2
  have y0 := row_cell (j := 0) k1 rfl
  have y1 := row_cell (j := 1) k1 rfl
  have y2 := row_cell (j := 2) k1 rfl
  have y3 := row_cell (j := 3) k1 rfl
  have y4 := row_cell (j := 4) k1 rfl
  have g4 := frozen_of_row w4 w.heap.size 4 _ _ k1
  have u0 := row_cell (j := 0) k2 rfl
  have u1 := row_cell (j := 1) k2 rfl
  have u2 := row_cell (j := 2) k2 rfl
  have u3 := row_cell (j := 3) k2 rfl
  have u4 := row_cell (j := 4) k2 rfl
  have v0 := frozen_of_row w4 (w.heap.size + 1) 0 _ _ k2
  have v1 := frozen_of_row w4 (w.heap.size + 1) 1 _ _ k2
  have v2 := frozen_of_row w4 (w.heap.size + 1) 2 _ _ k2
  have v3 := frozen_of_row w4 (w.heap.size + 1) 3 _ _ k2
  have v4 := frozen_of_row w4 (w.heap.size + 1) 4 _ _ k2
  have HKE := Lib.hid (fun u => (Below.heap_setCell w4 ⟨w.heap.size, 4, none⟩ u (w.heap.size + 1) (by simp)).trans k2)
  have F5 : Fr (fun i => i = w.heap.size ∨ i = w.heap.size + 1) w4 (set5 (w4.setCell ⟨w.heap.size, 4, none⟩ (.slice A4 n4 c4)) (w.heap.size + 1) (.int .i64 src) (.int .i64 seq) (.string key) (.slice A3 vers.length c3) (.slice A4 n4 c4)) :=
    ((Fr.set w4 ⟨w.heap.size, 4, none⟩ _).mono (fun i hi => .inl (.inl hi))).trans set5_fr (fun i hi => .inl (.inr hi))
  have hs4 := b4.size
  have hb3s := HB3.out.size
  have HE := Lib.hid (show NewFa w ⟨src, seq, ⟨key, vers⟩, route⟩ (.returned (.agg #[.int .i64 src, .int .i64 seq, .string key, .slice A3 vers.length c3, .slice A4 n4 c4])) (set5 (w4.setCell ⟨w.heap.size, 4, none⟩ (.slice A4 n4 c4)) (w.heap.size + 1) (.int .i64 src) (.int .i64 seq) (.string key) (.slice A3 vers.length c3) (.slice A4 n4 c4)) from
    ⟨A3, c3, A4, n4, c4, rfl, ⟨rows, HRW.out, ((HO3.out.below b4).keepI F5 (fun i hi e => by omega)).lower (by omega)⟩, hc3, hl4, hc4, own_lower (own_keepI o4 F5 (fun i hi e => by omega)) (by omega), (HB3.out.trans (b4.mono hb3s)).trans (F5.below (B := w.heap.size) (fun i hi => by omega) (by omega))⟩)
  clear k1 k2 o4 b4 F5 C3 HK3 HO3 HB3 hl4 hc4
  go_wp2
  refine bodyPost_ret (results_cell_row rfl _ _ (w.heap.size + 1) _ #[.int .i64 src, .int .i64 seq, .string key, .slice A3 vers.length c3, .slice A4 n4 c4] _ _ rfl (set5_heap (HKE.out _)) Try.underlying35 rfl Try.infoFarSize) rfl HE.out
end Go.Proofs.Ytilagblpamhmkaa
