/-
  firthlaw13.awake, and what is opened of what was sealed.
-/
import Derived.Test.YtlhcohpcjleekaaSealRefOpen
namespace Go.Proofs.Ytlhcohpcjleekaa
open Go.RowKit
set_option linter.unusedVariables false

theorem mark8_len (h : Int) : (mark8 h).length = 8 := by unfold mark8; rw [List.length_map, List.length_range]
theorem markB_len (s : ByteArray) (l : List UInt8) : (markB s l).length = 8 := mark8_len _
theorem bodyB_len (g : Int) (l : List Sp) : 1 ≤ (bodyB g l).length := by unfold bodyB; simp
theorem openE_seal {s : ByteArray} {g g' : Int} {l : List Sp} {m : List UInt8} (hm : m.length = 8) (hr : rightS l = true) (h0 : 0 ≤ g) (h1 : g ≤ 9223372036854775807) :
    openE s g' (bodyB g l ++ m) = if mayB s g' = false then ([], 1) else if g ≠ g' then ([], 131) else if m ≠ markB s (bodyB g l) then ([], 132) else (l, 0) := by
  have hb := bodyB_len g l
  have hlen : (bodyB g l ++ m).length = (bodyB g l).length + 8 := by rw [List.length_append, hm]
  have ht : (bodyB g l ++ m).take ((bodyB g l ++ m).length - 8) = bodyB g l := by rw [hlen, Nat.add_sub_cancel, List.take_left]
  have hd : (bodyB g l ++ m).drop ((bodyB g l ++ m).length - 8) = m := by rw [hlen, Nat.add_sub_cancel, List.drop_left]
  obtain ⟨G, rfl⟩ := Int.eq_ofNat_of_zero_le h0
  have hi : innerR (bodyB (G : Int) l) = some (G, l) := innerR_some.2 ⟨by omega, hr, rfl⟩
  cases hM : mayB s g'
  · rw [openE_may hM, if_pos rfl]
  · rw [openE_at hM (by omega) (by rw [ht]; exact hi), ht, hd, if_neg (show ¬ (true = false) by decide)]
theorem right_one : rightS [((1 : Int), (1 : Int), (3 : Int))] = true :=
  rightS_true.2 ⟨⟨fun x hx => by rw [List.mem_singleton.1 hx]; unfold okSp; simp, List.pairwise_singleton _ _⟩, by simp⟩
theorem aw_seal : sealE ⟨#[115]⟩ 3 [(1, 1, 3)] = (bodyB 3 [(1, 1, 3)] ++ markB ⟨#[115]⟩ (bodyB 3 [(1, 1, 3)]), 0) := sealE_yes ⟨by decide, right_one⟩
theorem aw_len : (bodyB 3 [(1, 1, 3)] ++ markB ⟨#[115]⟩ (bodyB 3 [(1, 1, 3)])).length = 14 := by
  rw [List.length_append, markB_len]
  rfl
theorem aw_open (s : ByteArray) (g : Int) : openE s g (bodyB 3 [(1, 1, 3)] ++ markB ⟨#[115]⟩ (bodyB 3 [(1, 1, 3)])) = if mayB s g = false then ([], 1) else if (3 : Int) ≠ g then ([], 131) else if markB ⟨#[115]⟩ (bodyB 3 [(1, 1, 3)]) ≠ markB s (bodyB 3 [(1, 1, 3)]) then ([], 132) else ([(1, 1, 3)], 0) :=
  openE_seal (markB_len _ _) right_one (by decide) (by decide)
set_option maxHeartbeats 2000000 in
set_option maxRecDepth 100000 in
theorem awakeS_any (w : World) : Calls Try.prog 11 #[] w fun e w' => e = .returned (.bool true) ∧ Below w.heap.size w w' := by
  have bA := (Below.refl w.heap.size w).alloc (Nat.le_refl _) (.cells #[.int .i64 1, .int .i64 1, .int .i64 3] 45)
  have sA : SlS (w.alloc (.cells #[.int .i64 1, .int .i64 1, .int .i64 3] 45)) (some ⟨w.heap.size, 0, none⟩) 1 [(1, 1, 3)] := sl_lit w #[.int .i64 1, .int .i64 1, .int .i64 3] 45 w.heap.size 1 3 _ rfl rfl rfl
  have c1 := seal_any ⟨#[115]⟩ 3 _ 1 1 _ _ sA (by omega) (by decide) (by decide)
  rw [aw_seal] at c1
  obtain ⟨T, hT⟩ : ∃ T, bodyB 3 [((1 : Int), (1 : Int), (3 : Int))] ++ markB ⟨#[115]⟩ (bodyB 3 [(1, 1, 3)]) = T := ⟨_, rfl⟩
  have o1 := aw_open ⟨#[115]⟩ 3
  have o2 := aw_open ⟨#[115]⟩ 4
  have o3 := aw_open ⟨#[]⟩ 4
  rw [if_neg (by decide), if_neg (by decide), if_neg (by simp), hT] at o1
  rw [if_neg (by decide), if_pos (by decide), hT] at o2
  rw [if_pos (by decide), hT] at o3
  have hl := aw_len
  rw [hT] at c1 hl
  simp only at c1
  have C1 := Lib.hid c1
  have HA := Lib.hid bA
  have HSA := Lib.hid sA
  have O1 := Lib.hid o1
  have O2 := Lib.hid o2
  have O3 := Lib.hid o3
  have HL := Lib.hid hl
  clear bA sA c1 hT o1 o2 o3 hl
  go_enter Try.func11, Try.ntmps11
  go_wp2_with fail
  refine C1.out.mono ?_
  rintro e w1 ⟨A1, n1, c1, rfl, s1, hc1, hm1, b1, -⟩
  have hn1 : n1 = 14 := by have := s1.len; have := HL.out; omega
  subst hn1
  have HB1 := Lib.hid (HA.out.trans (b1.mono HA.out.size))
  have HS1 := Lib.hid s1
  have HSA1 := Lib.hid (show SlS w1 _ 1 _ from Sl.below HSA.out b1)
  have c2 := sealOpen_any ⟨#[115]⟩ 3 A1 14 c1 T w1 s1 hc1 (by omega) (by decide)
  rw [O1.out] at c2
  have C2 := Lib.hid c2
  clear s1 b1 c2 C1
  go_wp2_with fail
  refine C2.out.mono ?_
  rintro e w2 ⟨A2, n2, c2, rfl, own2, hc2, b2⟩
  have hn2 : n2 = 1 := by have := own2.1; simp only [spV, spV1, List.length_append, List.length_cons, List.length_nil] at this; omega
  subst hn2
  have HB2 := Lib.hid (HB1.out.trans (b2.mono HB1.out.size))
  have HS2 := Lib.hid (show SlB w2 _ _ _ from HS1.out.below b2)
  have HSA2 := Lib.hid (show SlS w2 _ 1 _ from Sl.below HSA1.out b2)
  have HM2 := Lib.hid (show SlS w2 A2 1 _ from Sl.of_own own2)
  have c3 := sealOpen_any ⟨#[115]⟩ 4 A1 14 c1 T w2 HS2.out hc1 (by omega) (by decide)
  rw [O2.out] at c3
  have C3 := Lib.hid c3
  clear own2 b2 c3 C2
  go_wp2_with fail
  refine C3.out.mono ?_
  rintro e w3 ⟨A3, n3, c3, rfl, -, -, b3⟩
  have HB3 := Lib.hid (HB2.out.trans (b3.mono HB2.out.size))
  have HS3 := Lib.hid (show SlB w3 _ _ _ from HS2.out.below b3)
  have HSA3 := Lib.hid (show SlS w3 _ 1 _ from Sl.below HSA2.out b3)
  have HM3 := Lib.hid (show SlS w3 A2 1 _ from Sl.below HM2.out b3)
  have c4 := sealOpen_any ⟨#[]⟩ 4 A1 14 c1 T w3 HS3.out hc1 (by omega) (by decide)
  rw [O3.out] at c4
  have C4 := Lib.hid c4
  clear b3 c4 C3
  go_wp2_with fail
  refine C4.out.mono ?_
  rintro e w4 ⟨A4, n4, c4, rfl, -, -, b4⟩
  have HB4 := Lib.hid (HB3.out.trans (b4.mono HB3.out.size))
  have c5 := sameS_any (some ⟨w.heap.size, 0, none⟩) A2 1 1 1 c2 _ _ w4 (Sl.below HSA3.out b4) (Sl.below HM3.out b4) (by omega)
  rw [show ([((1 : Int), (1 : Int), (3 : Int))] == [((1 : Int), (1 : Int), (3 : Int))]) = true from by simp] at c5
  have C5 := Lib.hid c5
  clear b4 c5 C4
  go_wp2_with fail
  refine C5.out.mono ?_
  rintro e w5 ⟨rfl, k5, rfl⟩
  go_wp2
  go_ret
  exact ⟨rfl, below_drewN HB4.out k5⟩
end Go.Proofs.Ytlhcohpcjleekaa
