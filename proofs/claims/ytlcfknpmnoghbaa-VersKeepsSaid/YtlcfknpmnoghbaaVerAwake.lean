/-
  firthlaw05.awake returns true.
-/
import Derived.Test.YtlcfknpmnoghbaaVerLacks
namespace Go.Proofs.Ytlcfknpmnoghbaa
open Go.RowKit
set_option linter.unusedVariables false

def vs1 : ByteArray := ⟨#[118]⟩
def va : Vr := ⟨1, 1, [], false, ⟨#[118]⟩⟩
def vb : Vr := ⟨1, 2, [(1, 1, 1)], false, ⟨#[118]⟩⟩
def vc : Vr := ⟨2, 1, [], false, ⟨#[118]⟩⟩
theorem aw_h0 (s n : Int) : hasB [] s n = false := hasB_false (has_nil s n)
theorem aw_h11 : hasB [(1, 1, 1)] 1 1 = true := hasB_true.2 ⟨_, List.mem_singleton.2 rfl, rfl, by simp, by simp⟩
theorem aw_hn (s n : Int) (h : ¬ (s = 1 ∧ n = 1)) : hasB [(1, 1, 1)] s n = false := hasB_false (by
  rintro ⟨x, hx, h1, h2, h3⟩
  rw [List.mem_singleton] at hx
  subst hx
  simp only at h1 h2 h3
  omega)
theorem aw_r0 : rightS [] = true := rightS_true.2 ⟨Norm.nil, by simp⟩
theorem aw_ok0 (s n : Int) (h : dotB s n = true) : okVB ⟨s, n, [], false, ⟨#[118]⟩⟩ = true := by
  have := (dotB_true.1 h)
  unfold okVB
  simp only [h, aw_r0, topS, topTo, List.length_nil, Bool.true_and, Bool.not_false, Bool.true_or, Bool.and_true, Bool.and_eq_true, decide_eq_true_eq]
  exact ⟨by omega, by decide⟩
theorem aw_okb : okVB vb = true := by
  unfold okVB vb
  have h1 : rightS [(1, 1, 1)] = true := by rw [rightS_one]; exact dotB_true.2 (by omega)
  have h2 : dotB 1 2 = true := dotB_true.2 (by omega)
  have h3 : topS [(1, 1, 1)] 1 = 1 := rfl
  simp only [h1, h2, h3]
  decide
theorem aw_oka : okVB va = true := aw_ok0 1 1 (dotB_true.2 (by omega))
theorem aw_okc : okVB vc = true := aw_ok0 2 1 (dotB_true.2 (by omega))
theorem aw_ba (s n : Int) : hasB va.past s n = false := aw_h0 s n
theorem aw_bc (s n : Int) : hasB vc.past s n = false := aw_h0 s n
theorem aw_bb (s n : Int) (h : ¬ (s = 1 ∧ n = 1)) : hasB vb.past s n = false := aw_hn s n h
theorem right_one {v : Vr} (h : okVB v = true) (h2 : hasB v.past v.s v.n = false) : rightV [v] = true :=
  rightV_true.2 ⟨⟨fun x hx => by rw [List.mem_singleton.1 hx]; exact ⟨h, by unfold behB; simp [h2]⟩, List.pairwise_singleton _ _⟩, by simp⟩
theorem right_two {v u : Vr} (h : okVB v = true) (k : okVB u = true) (h1 : hasB v.past v.s v.n = false) (h2 : hasB v.past u.s u.n = false) (h3 : hasB u.past v.s v.n = false) (h4 : hasB u.past u.s u.n = false) (hd : dlt v u) : rightV [v, u] = true :=
  rightV_true.2 ⟨⟨fun x hx => by
    simp only [List.mem_cons, List.not_mem_nil, or_false] at hx
    rcases hx with rfl | rfl
    · exact ⟨h, by unfold behB; simp [h1, h3]⟩
    · exact ⟨k, by unfold behB; simp [h2, h4]⟩, List.pairwise_cons.2 ⟨fun x hx => by rw [List.mem_singleton.1 hx]; exact hd, List.pairwise_singleton _ _⟩⟩, by simp⟩
theorem aw_ra : rightV [va] = true := right_one aw_oka (aw_ba _ _)
theorem aw_rb : rightV [vb] = true := right_one aw_okb (aw_bb _ _ (by decide))
theorem aw_rac : rightV [va, vc] = true := right_two aw_oka aw_okc (aw_ba _ _) (aw_ba _ _) (aw_bc _ _) (aw_bc _ _) (dlt_iff.2 (.inl (by decide)))
theorem aw_rbc : rightV [vb, vc] = true := right_two aw_okb aw_okc (aw_bb _ _ (by decide)) (aw_bb _ _ (by decide)) (aw_bc _ _) (aw_bc _ _) (dlt_iff.2 (.inl (by decide)))
theorem aw_k1 (l : List Vr) : keepB l [vb] va = false := by
  unfold keepB behB
  simp only [List.any_cons, List.any_nil, Bool.or_false]
  rw [show hasB vb.past va.s va.n = true from aw_h11]
  simp
theorem aw_j1 : joinV [va, vc] [vb] = [vb, vc] := by
  have k2 : keepB [va, vc] [vb] vb = true := by
    unfold keepB behB
    simp only [List.any_cons, List.any_nil, Bool.or_false, aw_ba, aw_bc, aw_bb vb.s vb.n (by decide)]
    rfl
  have k3 : keepB [va, vc] [vb] vc = true := by
    unfold keepB behB
    simp only [List.any_cons, List.any_nil, Bool.or_false, aw_ba, aw_bc, aw_bb vc.s vc.n (by decide)]
    rfl
  unfold joinV
  rw [mrgL, if_pos (by decide), keepL_no (aw_k1 _), mrgL, if_neg (by decide), if_neg (by decide), keepL_yes k2, mrgL, keepL_yes k3, mrgL]
theorem aw_j2 : joinV [va] [vb] = [vb] := by
  have k2 : keepB [va] [vb] vb = true := by
    unfold keepB behB
    simp only [List.any_cons, List.any_nil, Bool.or_false, aw_ba, aw_bb vb.s vb.n (by decide)]
    rfl
  unfold joinV
  rw [mrgL, if_pos (by decide), keepL_no (aw_k1 _), mrgL, keepL_yes k2, mrgL]
theorem aw_t1 : mrgT [va, vc] [vb] = false := by
  rw [mrgT, if_pos (by decide), mrgT, if_neg (by decide), if_neg (by decide), mrgT]
theorem aw_t2 : mrgT [va] [vb] = false := by
  rw [mrgT, if_pos (by decide), mrgT]
theorem aw_m1 : mrgE [va, vc] [vb] = 0 ∧ mergedL [va, vc] [vb] = [vb, vc] := by
  have h := mrg_ok aw_rac aw_rb aw_t1 (by rw [aw_j1]; simp)
  rw [aw_j1] at h
  exact h
theorem aw_m2 : lacksB [va] [vb] = true := by
  have h := mrg_ok aw_ra aw_rb aw_t2 (by rw [aw_j2]; simp)
  unfold lacksB
  rw [h.1, h.2, aw_j2]
  rfl
theorem aw_same : lEq [vb, vc] [vb, vc] = true := decide_eq_true rfl
theorem aw_shown : shownV [vb, vc] = [vb, vc] := rfl
theorem Try.infoVerSize : (Try.prog.info? 28).map (·.size) = some 5 := by kernel_rfl
set_option maxHeartbeats 1000000 in
set_option maxRecDepth 100000 in
theorem ver_any (s n : Int) (A : Option Addr) (k c : Nat) (w : World) :
    Calls Try.prog 31 #[.int .i64 s, .int .i64 n, .slice A k c] w fun e w' => e = .returned (.agg #[.int .i64 s, .int .i64 n, .slice A k c, .bool false, .string ⟨#[118]⟩]) ∧ Below w.heap.size w w' := by
  go_enter Try.func31, Try.ntmps31
  go_wp2
  refine bodyPost_ret (results_cell_row rfl _ _ w.heap.size _ #[.int .i64 s, .int .i64 n, .slice A k c, .bool false, .string ⟨#[118]⟩] _ _ rfl (heap_alloc_new w _) Try.underlying28 rfl Try.infoVerSize) rfl ?_
  exact ⟨rfl, (Below.refl _ _).alloc (Nat.le_refl _) _⟩
/-- A literal list of versions. -/
theorem slv_lit (w : World) (cs : Array Value) (t : TypeId) (rows : List RV) (g n : Nat) (hg : g = w.heap.size) (hn : n = rows.length) (h : cs.toList = rows.flatMap vV1) (hr : ∀ y ∈ rows, VRow w y.1 y.2.1 y.2.2.1 y.2.2.2) : SlV (w.alloc (.cells cs t)) (some ⟨g, 0, none⟩) n (rows.map (·.1)) := by
  subst hg hn
  refine ⟨rows, rfl, ⟨by rw [flat_len vV1_len], fun _ => ⟨w.heap.size, 0, rfl, fun j u hu => ?_⟩⟩, fun y hy => (hr y hy).below ((Below.refl _ _).alloc (Nat.le_refl _) _)⟩
  rw [Nat.zero_add, cell_of_row _ w.heap.size j cs t (0, 0) (heap_alloc_new w _)]
  rw [← h] at hu
  simpa using hu
theorem row_nil (w : World) (s n : Int) (h : (Lit.int .i64 s).wf = true ∧ (Lit.int .i64 n).wf = true) : VRow w ⟨s, n, [], false, ⟨#[118]⟩⟩ none 0 0 := ⟨Sl.nil _ _ _, Nat.le_refl _, by omega, h, by simp, show (⟨#[118]⟩ : ByteArray).size ≤ _ from by decide⟩
theorem row_b {w : World} {A : Option Addr} (h : SlS w A 1 [(1, 1, 1)]) : VRow w vb A 1 1 := ⟨h, Nat.le_refl _, by omega, ⟨by decide, by decide⟩, fun x hx => by rw [List.mem_singleton.1 hx]; exact ⟨by decide, by decide, by decide⟩, by decide⟩
set_option maxHeartbeats 2000000 in
set_option maxRecDepth 100000 in
theorem awakeV_any (w : World) : Calls Try.prog 11 #[] w fun e w' => e = .returned (.bool true) ∧ Below w.heap.size w w' := by
  go_enter Try.func11, Try.ntmps11
  go_wp2_with fail
  refine (ver_any 1 1 none 0 0 w).mono ?_
  rintro e w1 ⟨rfl, b1⟩
  have B1 := b1.alloc b1.size (.cells #[.int .i64 1, .int .i64 1, .slice none 0 0, .bool false, .string ⟨#[118]⟩] 28)
  have X1 := BoxV.new w1 va none 0 0
  have S1 := sl_one (w1.alloc (.cells #[.int .i64 1, .int .i64 1, .slice none 0 0, .bool false, .string ⟨#[118]⟩] 28)) 1 1 1 42
  rw [show (w1.alloc (.cells #[.int .i64 1, .int .i64 1, .slice none 0 0, .bool false, .string ⟨#[118]⟩] 28)).heap.size = w1.heap.size + 1 by simp] at S1
  have B2 := B1.alloc B1.size (.cells #[.int .i64 1, .int .i64 1, .int .i64 1] 42)
  have X2 := X1.below ((Below.refl _ _).alloc (Nat.le_refl _) (.cells #[.int .i64 1, .int .i64 1, .int .i64 1] 42))
  have HB2 := Lib.hid B2
  have HX2 := Lib.hid X2
  have HS1 := Lib.hid S1
  clear b1 B1 X1 S1 B2 X2
  go_wp2_with fail
  refine (ver_any 1 2 _ 1 1 _).mono ?_
  rintro e w2 ⟨rfl, b2⟩
  have HB3 := Lib.hid (HB2.out.trans (b2.mono HB2.out.size))
  have X3 := HX2.out.below b2
  have S3 := Sl.below HS1.out b2
  have bb : Below w2.heap.size w2 (w2.alloc (.cells #[.int .i64 1, .int .i64 2, .slice (some ⟨w1.heap.size + 1, 0, none⟩) 1 1, .bool false, .string ⟨#[118]⟩] 28)) := (Below.refl _ _).alloc (Nat.le_refl _) _
  have HB4 := Lib.hid (HB3.out.trans (bb.mono HB3.out.size))
  have HX4 := Lib.hid (X3.below bb)
  have HS4 := Lib.hid (Sl.below S3 bb)
  have HY4 := Lib.hid (BoxV.new w2 vb (some ⟨w1.heap.size + 1, 0, none⟩) 1 1)
  clear b2 X3 S3 bb HB2 HX2 HS1
  go_wp2_with fail
  refine (ver_any 2 1 none 0 0 _).mono ?_
  rintro e w3 ⟨rfl, b3⟩
  have HB5 := Lib.hid (HB4.out.trans (b3.mono HB4.out.size))
  have HX5 := Lib.hid (HX4.out.below b3)
  have HS5 := Lib.hid (Sl.below HS4.out b3)
  have HY5 := Lib.hid (HY4.out.below b3)
  have l1 := HX5.out.lt
  have l2 := HY5.out.lt
  have x0 := HX5.out.c0
  have x1 := HX5.out.c1
  have x2 := HX5.out.c2
  have x3 := HX5.out.c3
  have x4 := HX5.out.c4
  have y0 := HY5.out.c0
  have y1 := HY5.out.c1
  have y2 := HY5.out.c2
  have y3 := HY5.out.c3
  have y4 := HY5.out.c4
  have bc : Below w3.heap.size w3 (w3.alloc (.cells #[.int .i64 2, .int .i64 1, .slice none 0 0, .bool false, .string ⟨#[118]⟩] 28)) := (Below.refl _ _).alloc (Nat.le_refl _) _
  have HX6 := Lib.hid (HX5.out.below bc)
  have HY6 := Lib.hid (HY5.out.below bc)
  have HZ6 := Lib.hid (BoxV.new w3 vc none 0 0)
  have HS6 := Lib.hid (Sl.below HS5.out bc)
  have HB6 := Lib.hid (HB5.out.trans (bc.mono HB5.out.size))
  clear b3 bc HB4 HX4 HS4 HY4
  simp only [va, vb] at x0 x1 x2 x3 x4 y0 y1 y2 y3 y4
  go_wp2_with fail
  have R1 : ∀ y ∈ ([(va, none, 0, 0), (vc, none, 0, 0)] : List RV), VRow (w3.alloc (.cells #[.int .i64 2, .int .i64 1, .slice none 0 0, .bool false, .string ⟨#[118]⟩] 28)) y.1 y.2.1 y.2.2.1 y.2.2.2 := fun y hy => by
    simp only [List.mem_cons, List.not_mem_nil, or_false] at hy
    rcases hy with rfl | rfl
    · exact row_nil _ 1 1 ⟨by decide, by decide⟩
    · exact row_nil _ 2 1 ⟨by decide, by decide⟩
  have L1 := slv_lit _ #[.int .i64 1, .int .i64 1, .slice none 0 0, .bool false, .string ⟨#[118]⟩, .int .i64 2, .int .i64 1, .slice none 0 0, .bool false, .string ⟨#[118]⟩] 28 _ (w3.heap.size + 1) 2 (by simp) rfl rfl R1
  have bl : ∀ (u : World) (o : Obj), Below u.heap.size u (u.alloc o) := fun u o => (Below.refl _ _).alloc (Nat.le_refl _) o
  have S7 := Sl.below HS6.out (bl _ (.cells #[.int .i64 1, .int .i64 1, .slice none 0 0, .bool false, .string ⟨#[118]⟩, .int .i64 2, .int .i64 1, .slice none 0 0, .bool false, .string ⟨#[118]⟩] 28))
  have R2 : ∀ y ∈ ([(vb, some ⟨w1.heap.size + 1, 0, none⟩, 1, 1)] : List RV), VRow _ y.1 y.2.1 y.2.2.1 y.2.2.2 := fun y hy => by
    rw [List.mem_singleton.1 hy]
    exact row_b S7
  have L2 := slv_lit _ #[.int .i64 1, .int .i64 2, .slice (some ⟨w1.heap.size + 1, 0, none⟩) 1 1, .bool false, .string ⟨#[118]⟩] 28 _ (w3.heap.size + 1 + 1) 1 (by simp) rfl rfl R2
  have L3 := L1.below (bl _ (.cells #[.int .i64 1, .int .i64 2, .slice (some ⟨w1.heap.size + 1, 0, none⟩) 1 1, .bool false, .string ⟨#[118]⟩] 28))
  have HC := merge_any _ _ _ _ 2 1 _ _ _ L3 L2 (by omega) (by omega)
  have B7 := (bl (w3.alloc (.cells #[.int .i64 2, .int .i64 1, .slice none 0 0, .bool false, .string ⟨#[118]⟩] 28)) (.cells #[.int .i64 1, .int .i64 1, .slice none 0 0, .bool false, .string ⟨#[118]⟩, .int .i64 2, .int .i64 1, .slice none 0 0, .bool false, .string ⟨#[118]⟩] 28))
  have B8 := B7.trans ((bl _ (.cells #[.int .i64 1, .int .i64 2, .slice (some ⟨w1.heap.size + 1, 0, none⟩) 1 1, .bool false, .string ⟨#[118]⟩] 28)).mono B7.size)
  rw [show ([(va, none, 0, 0), (vc, none, 0, 0)] : List RV).map (·.1) = [va, vc] from rfl, show ([(vb, some ⟨w1.heap.size + 1, 0, none⟩, 1, 1)] : List RV).map (·.1) = [vb] from rfl, aw_m1.1, aw_m1.2] at HC
  refine HC.mono ?_
  rintro e w4 ⟨A, n, c, rows, rfl, own, hrows, hnc, b4⟩
  have hs := own.slv
  rw [hrows] at hs
  obtain rfl : n = 2 := hs.len.symm
  have B9 := B8.trans (b4.mono B8.size)
  have HM9 := Lib.hid hs
  have HX9 := Lib.hid (HX6.out.below B9)
  have HY9 := Lib.hid (HY6.out.below B9)
  have HZ9 := Lib.hid (HZ6.out.below B9)
  have HS9 := Lib.hid (Sl.below HS6.out B9)
  have HB9 := Lib.hid (HB6.out.trans (B9.mono HB6.out.size))
  clear R1 R2 L1 L2 L3 S7 HC B7 B8 b4 own hrows hs B9 x0 x1 x2 x3 x4 y0 y1 y2 y3 y4 HX6 HY6 HZ6 HS6 HB6 HX5 HY5 HS5
  have y0 := HY9.out.c0
  have y1 := HY9.out.c1
  have y2 := HY9.out.c2
  have y3 := HY9.out.c3
  have y4 := HY9.out.c4
  have z0 := HZ9.out.c0
  have z1 := HZ9.out.c1
  have z2 := HZ9.out.c2
  have z3 := HZ9.out.c3
  have z4 := HZ9.out.c4
  simp only [vc, vb] at y0 y1 y2 y3 y4 z0 z1 z2 z3 z4
  go_wp2_with fail
  have R1 : ∀ y ∈ ([(vb, some ⟨w1.heap.size + 1, 0, none⟩, 1, 1), (vc, none, 0, 0)] : List RV), VRow w4 y.1 y.2.1 y.2.2.1 y.2.2.2 := fun y hy => by
    simp only [List.mem_cons, List.not_mem_nil, or_false] at hy
    rcases hy with rfl | rfl
    · exact row_b HS9.out
    · exact row_nil _ 2 1 ⟨by decide, by decide⟩
  have L1 := slv_lit w4 #[.int .i64 1, .int .i64 2, .slice (some ⟨w1.heap.size + 1, 0, none⟩) 1 1, .bool false, .string ⟨#[118]⟩, .int .i64 2, .int .i64 1, .slice none 0 0, .bool false, .string ⟨#[118]⟩] 28 _ w4.heap.size 2 rfl rfl rfl R1
  have b5 := bl w4 (.cells #[.int .i64 1, .int .i64 2, .slice (some ⟨w1.heap.size + 1, 0, none⟩) 1 1, .bool false, .string ⟨#[118]⟩, .int .i64 2, .int .i64 1, .slice none 0 0, .bool false, .string ⟨#[118]⟩] 28)
  have HC := refSameV_any A _ 2 2 c 2 _ _ _ (HM9.out.below b5) L1 (by omega) (by omega)
  rw [show ([(vb, some ⟨w1.heap.size + 1, 0, none⟩, 1, 1), (vc, none, 0, 0)] : List RV).map (·.1) = [vb, vc] from rfl, aw_same] at HC
  refine HC.mono ?_
  rintro e w5 ⟨rfl, b6⟩
  have B10 := b5.trans (b6.mono b5.size)
  have HM10 := Lib.hid (HM9.out.below B10)
  have HX10 := Lib.hid (HX9.out.below B10)
  have HY10 := Lib.hid (HY9.out.below B10)
  have HS10 := Lib.hid (Sl.below HS9.out B10)
  have HB10 := Lib.hid (HB9.out.trans (B10.mono HB9.out.size))
  have D5 := verRight_any A 2 c [vb, vc] w5 HM10.out (by omega)
  rw [aw_rbc] at D5
  have D5 := Lib.hid D5
  clear R1 L1 b5 HC b6 B10 y0 y1 y2 y3 y4 z0 z1 z2 z3 z4 HM9 HX9 HY9 HZ9 HS9 HB9
  go_wp2_with fail
  refine D5.out.mono ?_
  rintro e w6 ⟨rfl, b7⟩
  have HM11 := Lib.hid (HM10.out.below b7)
  have HX11 := Lib.hid (HX10.out.below b7)
  have HY11 := Lib.hid (HY10.out.below b7)
  have HS11 := Lib.hid (Sl.below HS10.out b7)
  have HB11 := Lib.hid (HB10.out.trans (b7.mono HB10.out.size))
  have l1 := HX11.out.lt
  have l2 := HY11.out.lt
  have x0 := HX11.out.c0
  have x1 := HX11.out.c1
  have x2 := HX11.out.c2
  have x3 := HX11.out.c3
  have x4 := HX11.out.c4
  have y0 := HY11.out.c0
  have y1 := HY11.out.c1
  have y2 := HY11.out.c2
  have y3 := HY11.out.c3
  have y4 := HY11.out.c4
  simp only [va, vb] at x0 x1 x2 x3 x4 y0 y1 y2 y3 y4
  clear b7 D5 HM10 HX10 HY10 HS10 HB10
  go_wp2_with fail
  have R1 : ∀ y ∈ ([(va, none, 0, 0)] : List RV), VRow w6 y.1 y.2.1 y.2.2.1 y.2.2.2 := fun y hy => by
    rw [List.mem_singleton.1 hy]
    exact row_nil _ 1 1 ⟨by decide, by decide⟩
  have L1 := slv_lit w6 #[.int .i64 1, .int .i64 1, .slice none 0 0, .bool false, .string ⟨#[118]⟩] 28 _ w6.heap.size 1 rfl rfl rfl R1
  have b8 := bl w6 (.cells #[.int .i64 1, .int .i64 1, .slice none 0 0, .bool false, .string ⟨#[118]⟩] 28)
  have S8 := Sl.below HS11.out b8
  have R2 : ∀ y ∈ ([(vb, some ⟨w1.heap.size + 1, 0, none⟩, 1, 1)] : List RV), VRow _ y.1 y.2.1 y.2.2.1 y.2.2.2 := fun y hy => by
    rw [List.mem_singleton.1 hy]
    exact row_b S8
  have L2 := slv_lit _ #[.int .i64 1, .int .i64 2, .slice (some ⟨w1.heap.size + 1, 0, none⟩) 1 1, .bool false, .string ⟨#[118]⟩] 28 _ (w6.heap.size + 1) 1 (by simp) rfl rfl R2
  have L3 := L1.below (bl _ (.cells #[.int .i64 1, .int .i64 2, .slice (some ⟨w1.heap.size + 1, 0, none⟩) 1 1, .bool false, .string ⟨#[118]⟩] 28))
  have B12 := b8.trans ((bl _ (.cells #[.int .i64 1, .int .i64 2, .slice (some ⟨w1.heap.size + 1, 0, none⟩) 1 1, .bool false, .string ⟨#[118]⟩] 28)).mono b8.size)
  have HC := verLacks_any _ _ _ _ 1 1 _ _ _ L3 L2 (by omega) (by omega)
  rw [show ([(va, none, 0, 0)] : List RV).map (·.1) = [va] from rfl, show ([(vb, some ⟨w1.heap.size + 1, 0, none⟩, 1, 1)] : List RV).map (·.1) = [vb] from rfl, aw_m2] at HC
  refine HC.mono ?_
  rintro e w7 ⟨rfl, b9⟩
  have B13 := B12.trans (b9.mono B12.size)
  have HB13 := Lib.hid (HB11.out.trans (B13.mono HB11.out.size))
  have HM13 := HM11.out.below B13
  have D6 := shown_any A 2 c [vb, vc] w7 HM13 (by omega)
  rw [aw_shown] at D6
  have D6 := Lib.hid D6
  clear R1 R2 L1 L2 L3 b8 S8 B12 HC b9 B13 HM13 x0 x1 x2 x3 x4 y0 y1 y2 y3 y4 HM11 HX11 HY11 HS11 HB11
  go_wp2_with fail
  refine D6.out.mono ?_
  rintro e w8 ⟨A8, n8, c8, rows8, rfl, own8, hrows8, hnc8, b14⟩
  obtain rfl : n8 = 2 := by
    have h1 := own8.len
    have h2 := congrArg List.length hrows8
    rw [List.length_map] at h2
    simp only [List.length_cons, List.length_nil] at h2
    omega
  have HB14 := Lib.hid (HB13.out.trans (b14.mono HB13.out.size))
  clear own8 hrows8 b14 D6 HB13
  go_wp2
  go_ret
  exact ⟨rfl, HB14.out⟩
end Go.Proofs.Ytlcfknpmnoghbaa
