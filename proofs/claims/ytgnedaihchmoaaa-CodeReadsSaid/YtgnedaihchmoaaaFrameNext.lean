/-
  frame.Next: what stands in bytes as a frame is taken out.
-/
import Derived.Test.YtgnedaihchmoaaaFramePutsWalk
import Derived.Test.YtgnedaihchmoaaaMB
import Derived.Deep.QuietTactic
import Derived.BigQuiet
namespace Go.Proofs.Ytgnedaihchmoaaa
open Go.RowKit
set_option linter.unusedVariables false

theorem SlB.sub {w : World} {b off n from_ m : Nat} {l : List UInt8} (hs : SlB w (some ⟨b, off, none⟩) n l) (h : from_ + m ≤ n) : SlB w (some ⟨b, off + from_, none⟩) m ((l.drop from_).take m) := by
  have h1 : Sl w (some ⟨b, off, none⟩) (from_ + m) 1 (bsV (l.take (from_ + m))) := by
    have := Sl.take hs h
    rwa [Nat.mul_one, bsV_take] at this
  refine ⟨by rw [bsV_length, List.length_take, List.length_drop, hs.len]; omega, fun hm => ⟨b, off + from_, rfl, fun j u hu => ?_⟩⟩
  obtain ⟨b', off', e, hc⟩ := h1.2 (by omega)
  injection e with e
  injection e with e1 e2
  subst e1 e2
  rw [Nat.add_assoc]
  refine hc (from_ + j) u ?_
  rw [← hu]
  simp only [bsV, List.getElem?_map, List.getElem?_take, List.getElem?_drop]
  congr 1
  by_cases hj : j < m
  · rw [if_pos (by omega), if_pos hj]
  · rw [if_neg (by omega), if_neg hj]

/-- What Next leaves. -/
def NextAns (w : World) (r : Except Int (List UInt8 × Nat)) (e : Ending) (w' : World) : Prop :=
  match r with
  | .error x => e = .returned (.tuple #[.slice none 0 0, .int .i64 0, .int .i64 x]) ∧ Below w.heap.size w w'
  | .ok (b, en) => ∃ A n c, e = .returned (.tuple #[.slice A n c, .int .i64 (en : Int), .int .i64 0]) ∧ SlB w' A n b ∧ n ≤ c ∧ w'.ownsRow w.heap.size 5 1 (.slice A n c) n (bsV b) ∧ Below w.heap.size w w'

/-- The first i bytes of the sum are right. -/
def SumTo (s : Nat) (l : List UInt8) (from_ i : Nat) : Prop := (le4 s).take i = (l.drop from_).take i
theorem SumTo.step {s : Nat} {l : List UInt8} {from_ i : Nat} {x y : UInt8} (h : SumTo s l from_ i) (hx : (le4 s)[i]? = some x) (hy : l[from_ + i]? = some y) (e : y = x) : SumTo s l from_ (i + 1) := by
  unfold SumTo at *
  rw [List.take_add_one, List.take_add_one, h, hx, List.getElem?_drop, hy, e]
theorem SumTo.no {s : Nat} {l : List UInt8} {from_ i : Nat} {x y : UInt8} (hx : (le4 s)[i]? = some x) (hy : l[from_ + i]? = some y) (hi : i < 4) (e : y ≠ x) : le4 s ≠ (l.drop from_).take 4 := by
  intro h
  have h1 : (le4 s)[i]? = ((l.drop from_).take 4)[i]? := by rw [← h]
  rw [hx, List.getElem?_take, if_pos hi, List.getElem?_drop, hy] at h1
  injection h1 with h1
  exact e h1.symm
theorem byte_ne {c m : Nat} (hc : c < 256) (h : UInt8.ofNat c ≠ UInt8.ofNat (m % 256)) : c ≠ m % 256 := fun e => h (by rw [e])
theorem byte_eq {c m : Nat} (h : c = m % 256) : UInt8.ofNat c = UInt8.ofNat (m % 256) := by rw [h]

/-- What nextF answers, step by step. -/
theorem nextF_err {l : List UInt8} {at_ : Nat} {x : Int} (h : rdNum (l.drop at_) = .error x) : nextF l at_ = .error x := by unfold nextF; rw [h]
theorem nextF_long {l : List UInt8} {at_ n k : Nat} (h : rdNum (l.drop at_) = .ok (n, k)) (h1 : 1048576 < n) : nextF l at_ = .error 3 := by unfold nextF; rw [h]; simp only; rw [if_pos h1]
theorem nextF_short {l : List UInt8} {at_ n k : Nat} (h : rdNum (l.drop at_) = .ok (n, k)) (h1 : ¬ 1048576 < n) (h2 : l.length < at_ + k + n + 4) : nextF l at_ = .error 4 := by unfold nextF; rw [h]; simp only; rw [if_neg h1, if_pos h2]
theorem nextF_sum {l : List UInt8} {at_ n k : Nat} (h : rdNum (l.drop at_) = .ok (n, k)) (h1 : ¬ 1048576 < n) (h2 : ¬ l.length < at_ + k + n + 4)
    (h3 : le4 (sumB ((l.drop at_).take k ++ (l.drop (at_ + k + 4)).take n)) ≠ (l.drop (at_ + k)).take 4) : nextF l at_ = .error 20 := by unfold nextF; rw [h]; simp only; rw [if_neg h1, if_neg h2, if_neg h3]
theorem nextF_yes {l : List UInt8} {at_ n k : Nat} (h : rdNum (l.drop at_) = .ok (n, k)) (h1 : ¬ 1048576 < n) (h2 : ¬ l.length < at_ + k + n + 4)
    (h3 : le4 (sumB ((l.drop at_).take k ++ (l.drop (at_ + k + 4)).take n)) = (l.drop (at_ + k)).take 4) : nextF l at_ = .ok ((l.drop (at_ + k + 4)).take n, at_ + k + 4 + n) := by unfold nextF; rw [h]; simp only; rw [if_neg h1, if_neg h2, if_pos h3]

theorem frameNext_out (A : Option Addr) (n c : Nat) (a : Int) (w : World) (h : a < 0 ∨ (n : Int) < a) :
    Calls Try.prog 53 #[.slice A n c, .int .i64 a] w fun e w' => e = .returned (.tuple #[.slice none 0 0, .int .i64 0, .int .i64 1]) ∧ w = w' := by
  have C := Lib.hid (num_out A n c a w h)
  clear h
  go_enter Try.func53, Try.ntmps53
  go_wp2_with fail
  refine C.out.mono ?_
  rintro e w1 ⟨rfl, rfl⟩
  go_wp2
  go_ret3
  exact ⟨rfl, rfl⟩



set_option maxHeartbeats 2000000 in
set_option maxRecDepth 100000 in
theorem frameNext_any (A : Option Addr) (n c at_ : Nat) (l : List UInt8) (w : World) (hs : SlB w A n l) (hc : n ≤ c) (hcap : n ≤ 140737488351232) (hat : at_ ≤ n) :
    Calls Try.prog 53 #[.slice A n c, .int .i64 (at_ : Int)] w (NextAns w (nextF l at_)) := by
  obtain ⟨i0, hi, hz0, hz1, hz2⟩ := info_parts Try.infoU8
  have hll := hs.len
  rcases hr : rdNum (l.drop at_) with x | ⟨m, k⟩
  · have C := Lib.hid (num_err hs hc hcap hat hr)
    have hx : x = 2 ∨ x = 4 := rdN_err _ _ _ _ hr
    rw [nextF_err hr]
    clear hr
    rcases hx with rfl | rfl
    all_goals
      go_enter Try.func53, Try.ntmps53
      go_wp2_with fail
      refine C.out.mono ?_
      rintro e w1 ⟨rfl, rfl⟩
      go_wp2
      go_ret3
      exact ⟨rfl, Below.refl _ _⟩
  · have C := Lib.hid (num_ok hs hc hcap hat hr)
    obtain ⟨k1, k9, kl, hm63, hp⟩ := rdNum_ok hr
    rw [List.length_drop] at kl
    have hkn : at_ + k ≤ n := by omega
    have HR := Lib.hid hr
    clear hr hp
    by_cases h1 : 1048576 < m
    · rw [nextF_long HR.out h1]
      go_enter Try.func53, Try.ntmps53
      go_wp2_with fail
      refine C.out.mono ?_
      rintro e w1 ⟨rfl, rfl⟩
      go_wp2
      go_ret3
      exact ⟨rfl, Below.refl _ _⟩
    · by_cases h2 : l.length < at_ + k + m + 4
      · rw [nextF_short HR.out h1 h2]
        have h2' : n < at_ + k + m + 4 := by omega
        clear h2
        go_enter Try.func53, Try.ntmps53
        go_wp2_with fail
        refine C.out.mono ?_
        rintro e w1 ⟨rfl, rfl⟩
        go_wp2
        go_ret3
        exact ⟨rfl, Below.refl _ _⟩
      · have h2' : at_ + k + m + 4 ≤ n := by omega
        have H12 := Lib.hid (And.intro h1 h2)
        obtain ⟨b, off, c0, rfl, _, _, _⟩ := hs.at_ (k := at_) (by omega)
        have P1 := hs.sub (from_ := at_) (m := k) (by omega)
        have P2 := hs.sub (from_ := at_ + k + 4) (m := m) (by omega)
        clear h2 hll
        by_cases hcc : c = at_ + k + 4
        · obtain rfl : m = 0 := by omega
          subst hcc
          have P3 : SlB w (some ⟨b, off, none⟩) 0 ((l.drop (at_ + k + 4)).take 0) := by rw [List.take_zero]; exact Sl.nil _ _ _
          clear P2
          obtain ⟨S, hS⟩ : ∃ S : Nat, S = sumB ((l.drop at_).take k ++ (l.drop (at_ + k + 4)).take 0) := ⟨_, rfl⟩
          have D := frameSum_any (some ⟨w.heap.size, 0, none⟩) 2 2 [(l.drop at_).take k, (l.drop (at_ + k + 4)).take 0] (w.alloc (.cells #[.slice (some ⟨b, off + at_, none⟩) k (at_ + k + 4 - at_), .slice (some ⟨b, off, none⟩) 0 0] 31)) (SlBB.lit2 _ P1 P3 (by omega) (by omega) (by omega) (by omega)) (by omega)
          rw [show ([(l.drop at_).take k, (l.drop (at_ + k + 4)).take 0] : List (List UInt8)).flatten = (l.drop at_).take k ++ (l.drop (at_ + k + 4)).take 0 by simp, ← hS] at D
          have D := Lib.hid D
          have hS32 : S < 4294967296 := by rw [hS]; exact sumB_lt _
          have HS := Lib.hid hS
          obtain ⟨W1, hW1⟩ : ∃ W1, W1 = w.alloc (.cells #[.slice (some ⟨b, off + at_, none⟩) k (at_ + k + 4 - at_), .slice (some ⟨b, off, none⟩) 0 0] 31) := ⟨_, rfl⟩
          have B1 : Below w.heap.size w W1 := by rw [hW1]; exact (Below.refl _ _).alloc (Nat.le_refl _) _
          have HW := Lib.hid hW1
          have SW := Sl.below hs B1
          have PW := Sl.below P3 B1
          have zW := B1.size
          clear hS hW1 hs P1 P3
          go_enter Try.func53, Try.ntmps53
          go_wp2_with fail
          refine C.out.mono ?_
          rintro e w1 ⟨rfl, rfl⟩
          go_wp2_with fail
          refine D.out.mono ?_
          rintro e w2 ⟨rfl, rfl⟩
          rw [← HW.out]
          clear D C
          go_wp2
          go_loopw [12, 47] (fun x i wr => ∃ (j d : Nat), i = .int .i64 (j : Int) ∧ j ≤ 4 ∧ Hid (SumTo S l (at_ + k) j) ∧ wr = W1.drewN d) (fun _ i _ => 4 - (intOf i).toNat)
          case atStart => exact ⟨0, 0, rfl, by omega, rfl, rfl⟩
          case round =>
            obtain ⟨j, d, rfl, hj, HJ, rfl⟩ := hrel
            have i0' : (0 : Int) ≤ (at_ : Int) + (k : Int) := by omega
            by_cases hj4 : j = 4
            · subst hj4
              have HE := Lib.hid (nextF_yes HR.out H12.out.1 H12.out.2 (by rw [← HS.out]; exact (show (le4 S).take 4 = _ from HJ.out)))
              have BD := below_drewN B1 d
              have zD := BD.size
              have PD : SlB (W1.drewN d) (some ⟨b, off, none⟩) 0 ((l.drop (at_ + k + 4)).take 0) := PW
              clear HJ PW SW
              go_wp2_with (at_builtin; refine wpList_append_sl _ rfl (.tmp 63) (.tmp 64) 31 rfl (w.heap.size) 5 i0 (.int .u8 0) 1 1 Try.underlying31 hi hz0 hz1 hz2 rfl (by decide) (.slice (some ⟨W1.heap.size, 0, none⟩) 0 0) (0) ([]) rfl (World.ownsRow_lit (W1.drewN d) #[] 0 zD (by unfold maxLen; omega) rfl) ((some ⟨b, off, none⟩)) (0) (0) (bsV ((l.drop (at_ + k + 4)).take 0)) rfl (Sl.alloc PD _) (bsV_one _) (by unfold maxLen; omega) (by omega) (by simp; omega) ?_)
              intro v' w3 hown hgrow _
              have BF : Below w.heap.size w w3 := (BD.alloc zD _).grown hgrow (by simp; omega) (fun g hg => by simp [Value.ownBlock] at hg; omega)
              obtain ⟨Ar, cr, rfl, hcr, _⟩ := own_slice hown
              clear hgrow BD PD
              go_wp2
              go_ret3
              rw [HE.out]
              exact ⟨Ar, _, cr, by first | rfl | (congr 3; omega), Sl.of_own hown, hcr, hown, BF⟩
            · obtain ⟨b2, off2, x, e, hx, hxl, hcell⟩ := SlB.at_ SW (k := at_ + k + j) (by omega)
              injection e with e
              injection e with e1 e2
              subst e1 e2
              have HX := Lib.hid hxl
              clear hxl
              match j, hj, hj4 with
              | 0, _, _ =>
                have i1 : (at_ : Int) + (k : Int) < (n : Int) := by omega
                have i3 : ((at_ : Int) + (k : Int)).toNat = at_ + k := by omega
                have i4 : IntKind.i64.wrap ((at_ : Int) + (k : Int)) = (at_ : Int) + (k : Int) := IntWalk.i64_in _ (by omega)
                simp only [Nat.add_zero] at hcell
                by_cases hq : x = S % 256
                · have v : ((x : Int) != (S : Int) % 256) = false := by simp; omega
                  have HN := Lib.hid (HJ.out.step (i := 0) rfl HX.out (byte_eq hq))
                  clear hq
                  go_wp2_with fail
                  go_quiet (fail)
                  go_wp2
                  go_roundw
                  case rel => exact ⟨0 + 1, _, rfl, by omega, HN, rfl⟩
                  case measure => simp [intOf]
                · have v : ((x : Int) != (S : Int) % 256) = true := by simp; omega
                  have HN := Lib.hid (SumTo.no (s := S) (l := l) (from_ := at_ + k) (i := 0) rfl HX.out (by omega) (fun e => hq (by have := congrArg UInt8.toNat e; rw [UInt8.toNat_ofNat', UInt8.toNat_ofNat'] at this; omega)))
                  clear hq
                  have HE := Lib.hid (nextF_sum HR.out H12.out.1 H12.out.2 (by rw [← HS.out]; exact HN.out))
                  go_wp2_with fail
                  go_quiet (fail)
                  go_wp2
                  go_ret3
                  rw [HE.out]
                  exact ⟨rfl, below_drewN (below_drewN B1 _) _⟩
              | 1, _, _ =>
                have i1 : (0 : Int) ≤ (at_ : Int) + (k : Int) + 1 := by omega
                have i2 : (at_ : Int) + (k : Int) + 1 < (n : Int) := by omega
                have i3 : ((at_ : Int) + (k : Int) + 1).toNat = at_ + k + 1 := by omega
                have i4 : IntKind.i64.wrap ((at_ : Int) + (k : Int) + 1) = (at_ : Int) + (k : Int) + 1 := IntWalk.i64_in _ (by omega)
                by_cases hq : x = (S / 256) % 256
                · have v : ((x : Int) != ((S : Int) / 256 % 256)) = false := by simp; omega
                  have HN := Lib.hid (HJ.out.step (i := 1) rfl HX.out (byte_eq hq))
                  clear hq
                  go_wp2_with fail
                  go_quiet (fail)
                  go_wp2
                  go_roundw
                  case rel => exact ⟨1 + 1, _, rfl, by omega, HN, rfl⟩
                  case measure => simp [intOf]
                · have v : ((x : Int) != ((S : Int) / 256 % 256)) = true := by simp; omega
                  have HN := Lib.hid (SumTo.no (s := S) (l := l) (from_ := at_ + k) (i := 1) rfl HX.out (by omega) (fun e => hq (by have := congrArg UInt8.toNat e; rw [UInt8.toNat_ofNat', UInt8.toNat_ofNat'] at this; omega)))
                  clear hq
                  have HE := Lib.hid (nextF_sum HR.out H12.out.1 H12.out.2 (by rw [← HS.out]; exact HN.out))
                  go_wp2_with fail
                  go_quiet (fail)
                  go_wp2
                  go_ret3
                  rw [HE.out]
                  exact ⟨rfl, below_drewN (below_drewN B1 _) _⟩
              | 2, _, _ =>
                have i1 : (0 : Int) ≤ (at_ : Int) + (k : Int) + 2 := by omega
                have i2 : (at_ : Int) + (k : Int) + 2 < (n : Int) := by omega
                have i3 : ((at_ : Int) + (k : Int) + 2).toNat = at_ + k + 2 := by omega
                have i4 : IntKind.i64.wrap ((at_ : Int) + (k : Int) + 2) = (at_ : Int) + (k : Int) + 2 := IntWalk.i64_in _ (by omega)
                by_cases hq : x = (S / 65536) % 256
                · have v : ((x : Int) != ((S : Int) / 65536 % 256)) = false := by simp; omega
                  have HN := Lib.hid (HJ.out.step (i := 2) rfl HX.out (byte_eq hq))
                  clear hq
                  go_wp2_with fail
                  go_quiet (fail)
                  go_wp2
                  go_roundw
                  case rel => exact ⟨2 + 1, _, rfl, by omega, HN, rfl⟩
                  case measure => simp [intOf]
                · have v : ((x : Int) != ((S : Int) / 65536 % 256)) = true := by simp; omega
                  have HN := Lib.hid (SumTo.no (s := S) (l := l) (from_ := at_ + k) (i := 2) rfl HX.out (by omega) (fun e => hq (by have := congrArg UInt8.toNat e; rw [UInt8.toNat_ofNat', UInt8.toNat_ofNat'] at this; omega)))
                  clear hq
                  have HE := Lib.hid (nextF_sum HR.out H12.out.1 H12.out.2 (by rw [← HS.out]; exact HN.out))
                  go_wp2_with fail
                  go_quiet (fail)
                  go_wp2
                  go_ret3
                  rw [HE.out]
                  exact ⟨rfl, below_drewN (below_drewN B1 _) _⟩
              | 3, _, _ =>
                have i1 : (0 : Int) ≤ (at_ : Int) + (k : Int) + 3 := by omega
                have i2 : (at_ : Int) + (k : Int) + 3 < (n : Int) := by omega
                have i3 : ((at_ : Int) + (k : Int) + 3).toNat = at_ + k + 3 := by omega
                have i4 : IntKind.i64.wrap ((at_ : Int) + (k : Int) + 3) = (at_ : Int) + (k : Int) + 3 := IntWalk.i64_in _ (by omega)
                by_cases hq : x = (S / 16777216) % 256
                · have v : ((x : Int) != ((S : Int) / 16777216)) = false := by simp; omega
                  have HN := Lib.hid (HJ.out.step (i := 3) rfl HX.out (byte_eq hq))
                  clear hq
                  go_wp2_with fail
                  go_quiet (fail)
                  go_wp2
                  go_roundw
                  case rel => exact ⟨3 + 1, _, rfl, by omega, HN, rfl⟩
                  case measure => simp [intOf]
                · have v : ((x : Int) != ((S : Int) / 16777216)) = true := by simp; omega
                  have HN := Lib.hid (SumTo.no (s := S) (l := l) (from_ := at_ + k) (i := 3) rfl HX.out (by omega) (fun e => hq (by have := congrArg UInt8.toNat e; rw [UInt8.toNat_ofNat', UInt8.toNat_ofNat'] at this; omega)))
                  clear hq
                  have HE := Lib.hid (nextF_sum HR.out H12.out.1 H12.out.2 (by rw [← HS.out]; exact HN.out))
                  go_wp2_with fail
                  go_quiet (fail)
                  go_wp2
                  go_ret3
                  rw [HE.out]
                  exact ⟨rfl, below_drewN (below_drewN B1 _) _⟩
              | 4, _, h => exact absurd rfl h
              | j + 5, h, _ => omega
        · have P3 := P2
          clear P2
          have P3 : SlB w (some ⟨b, off + (at_ + k + 4), none⟩) m ((l.drop (at_ + k + 4)).take m) := P3
          obtain ⟨S, hS⟩ : ∃ S : Nat, S = sumB ((l.drop at_).take k ++ (l.drop (at_ + k + 4)).take m) := ⟨_, rfl⟩
          have D := frameSum_any (some ⟨w.heap.size, 0, none⟩) 2 2 [(l.drop at_).take k, (l.drop (at_ + k + 4)).take m] (w.alloc (.cells #[.slice (some ⟨b, off + at_, none⟩) k (c - at_), .slice (some ⟨b, off + (at_ + k + 4), none⟩) m (c - (at_ + k + 4))] 31)) (SlBB.lit2 _ P1 P3 (by omega) (by omega) (by omega) (by omega)) (by omega)
          rw [show ([(l.drop at_).take k, (l.drop (at_ + k + 4)).take m] : List (List UInt8)).flatten = (l.drop at_).take k ++ (l.drop (at_ + k + 4)).take m by simp, ← hS] at D
          have D := Lib.hid D
          have hS32 : S < 4294967296 := by rw [hS]; exact sumB_lt _
          have HS := Lib.hid hS
          obtain ⟨W1, hW1⟩ : ∃ W1, W1 = w.alloc (.cells #[.slice (some ⟨b, off + at_, none⟩) k (c - at_), .slice (some ⟨b, off + (at_ + k + 4), none⟩) m (c - (at_ + k + 4))] 31) := ⟨_, rfl⟩
          have B1 : Below w.heap.size w W1 := by rw [hW1]; exact (Below.refl _ _).alloc (Nat.le_refl _) _
          have HW := Lib.hid hW1
          have SW := Sl.below hs B1
          have PW := Sl.below P3 B1
          have zW := B1.size
          clear hS hW1 hs P1 P3
          go_enter Try.func53, Try.ntmps53
          go_wp2_with fail
          refine C.out.mono ?_
          rintro e w1 ⟨rfl, rfl⟩
          go_wp2_with fail
          refine D.out.mono ?_
          rintro e w2 ⟨rfl, rfl⟩
          rw [← HW.out]
          clear D C
          go_wp2
          go_loopw [12, 47] (fun x i wr => ∃ (j d : Nat), i = .int .i64 (j : Int) ∧ j ≤ 4 ∧ Hid (SumTo S l (at_ + k) j) ∧ wr = W1.drewN d) (fun _ i _ => 4 - (intOf i).toNat)
          case atStart => exact ⟨0, 0, rfl, by omega, rfl, rfl⟩
          case round =>
            obtain ⟨j, d, rfl, hj, HJ, rfl⟩ := hrel
            have i0' : (0 : Int) ≤ (at_ : Int) + (k : Int) := by omega
            by_cases hj4 : j = 4
            · subst hj4
              have HE := Lib.hid (nextF_yes HR.out H12.out.1 H12.out.2 (by rw [← HS.out]; exact (show (le4 S).take 4 = _ from HJ.out)))
              have BD := below_drewN B1 d
              have zD := BD.size
              have PD : SlB (W1.drewN d) (some ⟨b, off + (at_ + k + 4), none⟩) m ((l.drop (at_ + k + 4)).take m) := PW
              clear HJ PW SW
              go_wp2_with (at_builtin; refine wpList_append_sl _ rfl (.tmp 63) (.tmp 64) 31 rfl (w.heap.size) 5 i0 (.int .u8 0) 1 1 Try.underlying31 hi hz0 hz1 hz2 rfl (by decide) (.slice (some ⟨W1.heap.size, 0, none⟩) 0 0) (0) ([]) rfl (World.ownsRow_lit (W1.drewN d) #[] 0 zD (by unfold maxLen; omega) rfl) ((some ⟨b, off + (at_ + k + 4), none⟩)) (m) ((c - (at_ + k + 4))) (bsV ((l.drop (at_ + k + 4)).take m)) rfl (Sl.alloc PD _) (bsV_one _) (by unfold maxLen; omega) (by omega) (by simp; omega) ?_)
              intro v' w3 hown hgrow _
              have BF : Below w.heap.size w w3 := (BD.alloc zD _).grown hgrow (by simp; omega) (fun g hg => by simp [Value.ownBlock] at hg; omega)
              obtain ⟨Ar, cr, rfl, hcr, _⟩ := own_slice hown
              clear hgrow BD PD
              go_wp2
              go_ret3
              rw [HE.out]
              exact ⟨Ar, _, cr, by first | rfl | (congr 3; omega), Sl.of_own hown, hcr, hown, BF⟩
            · obtain ⟨b2, off2, x, e, hx, hxl, hcell⟩ := SlB.at_ SW (k := at_ + k + j) (by omega)
              injection e with e
              injection e with e1 e2
              subst e1 e2
              have HX := Lib.hid hxl
              clear hxl
              match j, hj, hj4 with
              | 0, _, _ =>
                have i1 : (at_ : Int) + (k : Int) < (n : Int) := by omega
                have i3 : ((at_ : Int) + (k : Int)).toNat = at_ + k := by omega
                have i4 : IntKind.i64.wrap ((at_ : Int) + (k : Int)) = (at_ : Int) + (k : Int) := IntWalk.i64_in _ (by omega)
                simp only [Nat.add_zero] at hcell
                by_cases hq : x = S % 256
                · have v : ((x : Int) != (S : Int) % 256) = false := by simp; omega
                  have HN := Lib.hid (HJ.out.step (i := 0) rfl HX.out (byte_eq hq))
                  clear hq
                  go_wp2_with fail
                  go_quiet (fail)
                  go_wp2
                  go_roundw
                  case rel => exact ⟨0 + 1, _, rfl, by omega, HN, rfl⟩
                  case measure => simp [intOf]
                · have v : ((x : Int) != (S : Int) % 256) = true := by simp; omega
                  have HN := Lib.hid (SumTo.no (s := S) (l := l) (from_ := at_ + k) (i := 0) rfl HX.out (by omega) (fun e => hq (by have := congrArg UInt8.toNat e; rw [UInt8.toNat_ofNat', UInt8.toNat_ofNat'] at this; omega)))
                  clear hq
                  have HE := Lib.hid (nextF_sum HR.out H12.out.1 H12.out.2 (by rw [← HS.out]; exact HN.out))
                  go_wp2_with fail
                  go_quiet (fail)
                  go_wp2
                  go_ret3
                  rw [HE.out]
                  exact ⟨rfl, below_drewN (below_drewN B1 _) _⟩
              | 1, _, _ =>
                have i1 : (0 : Int) ≤ (at_ : Int) + (k : Int) + 1 := by omega
                have i2 : (at_ : Int) + (k : Int) + 1 < (n : Int) := by omega
                have i3 : ((at_ : Int) + (k : Int) + 1).toNat = at_ + k + 1 := by omega
                have i4 : IntKind.i64.wrap ((at_ : Int) + (k : Int) + 1) = (at_ : Int) + (k : Int) + 1 := IntWalk.i64_in _ (by omega)
                by_cases hq : x = (S / 256) % 256
                · have v : ((x : Int) != ((S : Int) / 256 % 256)) = false := by simp; omega
                  have HN := Lib.hid (HJ.out.step (i := 1) rfl HX.out (byte_eq hq))
                  clear hq
                  go_wp2_with fail
                  go_quiet (fail)
                  go_wp2
                  go_roundw
                  case rel => exact ⟨1 + 1, _, rfl, by omega, HN, rfl⟩
                  case measure => simp [intOf]
                · have v : ((x : Int) != ((S : Int) / 256 % 256)) = true := by simp; omega
                  have HN := Lib.hid (SumTo.no (s := S) (l := l) (from_ := at_ + k) (i := 1) rfl HX.out (by omega) (fun e => hq (by have := congrArg UInt8.toNat e; rw [UInt8.toNat_ofNat', UInt8.toNat_ofNat'] at this; omega)))
                  clear hq
                  have HE := Lib.hid (nextF_sum HR.out H12.out.1 H12.out.2 (by rw [← HS.out]; exact HN.out))
                  go_wp2_with fail
                  go_quiet (fail)
                  go_wp2
                  go_ret3
                  rw [HE.out]
                  exact ⟨rfl, below_drewN (below_drewN B1 _) _⟩
              | 2, _, _ =>
                have i1 : (0 : Int) ≤ (at_ : Int) + (k : Int) + 2 := by omega
                have i2 : (at_ : Int) + (k : Int) + 2 < (n : Int) := by omega
                have i3 : ((at_ : Int) + (k : Int) + 2).toNat = at_ + k + 2 := by omega
                have i4 : IntKind.i64.wrap ((at_ : Int) + (k : Int) + 2) = (at_ : Int) + (k : Int) + 2 := IntWalk.i64_in _ (by omega)
                by_cases hq : x = (S / 65536) % 256
                · have v : ((x : Int) != ((S : Int) / 65536 % 256)) = false := by simp; omega
                  have HN := Lib.hid (HJ.out.step (i := 2) rfl HX.out (byte_eq hq))
                  clear hq
                  go_wp2_with fail
                  go_quiet (fail)
                  go_wp2
                  go_roundw
                  case rel => exact ⟨2 + 1, _, rfl, by omega, HN, rfl⟩
                  case measure => simp [intOf]
                · have v : ((x : Int) != ((S : Int) / 65536 % 256)) = true := by simp; omega
                  have HN := Lib.hid (SumTo.no (s := S) (l := l) (from_ := at_ + k) (i := 2) rfl HX.out (by omega) (fun e => hq (by have := congrArg UInt8.toNat e; rw [UInt8.toNat_ofNat', UInt8.toNat_ofNat'] at this; omega)))
                  clear hq
                  have HE := Lib.hid (nextF_sum HR.out H12.out.1 H12.out.2 (by rw [← HS.out]; exact HN.out))
                  go_wp2_with fail
                  go_quiet (fail)
                  go_wp2
                  go_ret3
                  rw [HE.out]
                  exact ⟨rfl, below_drewN (below_drewN B1 _) _⟩
              | 3, _, _ =>
                have i1 : (0 : Int) ≤ (at_ : Int) + (k : Int) + 3 := by omega
                have i2 : (at_ : Int) + (k : Int) + 3 < (n : Int) := by omega
                have i3 : ((at_ : Int) + (k : Int) + 3).toNat = at_ + k + 3 := by omega
                have i4 : IntKind.i64.wrap ((at_ : Int) + (k : Int) + 3) = (at_ : Int) + (k : Int) + 3 := IntWalk.i64_in _ (by omega)
                by_cases hq : x = (S / 16777216) % 256
                · have v : ((x : Int) != ((S : Int) / 16777216)) = false := by simp; omega
                  have HN := Lib.hid (HJ.out.step (i := 3) rfl HX.out (byte_eq hq))
                  clear hq
                  go_wp2_with fail
                  go_quiet (fail)
                  go_wp2
                  go_roundw
                  case rel => exact ⟨3 + 1, _, rfl, by omega, HN, rfl⟩
                  case measure => simp [intOf]
                · have v : ((x : Int) != ((S : Int) / 16777216)) = true := by simp; omega
                  have HN := Lib.hid (SumTo.no (s := S) (l := l) (from_ := at_ + k) (i := 3) rfl HX.out (by omega) (fun e => hq (by have := congrArg UInt8.toNat e; rw [UInt8.toNat_ofNat', UInt8.toNat_ofNat'] at this; omega)))
                  clear hq
                  have HE := Lib.hid (nextF_sum HR.out H12.out.1 H12.out.2 (by rw [← HS.out]; exact HN.out))
                  go_wp2_with fail
                  go_quiet (fail)
                  go_wp2
                  go_ret3
                  rw [HE.out]
                  exact ⟨rfl, below_drewN (below_drewN B1 _) _⟩
              | 4, _, h => exact absurd rfl h
              | j + 5, h, _ => omega
end Go.Proofs.Ytgnedaihchmoaaa
