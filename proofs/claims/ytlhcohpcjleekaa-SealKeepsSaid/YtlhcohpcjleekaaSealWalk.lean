/-
  seal.may, Seal and the document's: what they answer.
-/
import Derived.Test.YtlhcohpcjleekaaSealPlain
namespace Go.Proofs.Ytlhcohpcjleekaa
open Go.RowKit
set_option linter.unusedVariables false

theorem may_any (s : ByteArray) (g : Int) (w : World) (hz : s.size ≤ 140737488351232) :
    Calls Try.prog 19 #[.string s, .int .i64 g] w fun e w' => e = .returned (.bool (mayB s g)) ∧ w' = w := by
  obtain ⟨d1, h1⟩ : ∃ d, decide (1 ≤ s.size) = d := ⟨_, rfl⟩
  obtain ⟨d2, h2⟩ : ∃ d, decide (s.size ≤ 64) = d := ⟨_, rfl⟩
  obtain ⟨d3, h3⟩ : ∃ d, decide (0 ≤ g) = d := ⟨_, rfl⟩
  have HM := Lib.hid (show mayB s g = (d1 && (d2 && d3)) from by unfold mayB; rw [h1, h2, h3])
  have k1 : decide ((s.size : Int) ≥ 1) = d1 := by rw [← h1]; exact decide_eq_decide.2 (by omega)
  have k2 : decide ((s.size : Int) ≤ 64) = d2 := by rw [← h2]; exact decide_eq_decide.2 (by omega)
  cases d1 <;> cases d2 <;> cases d3
  all_goals
    go_enter Try.func19, Try.ntmps19
    go_wp2
    go_ret
    exact ⟨by rw [HM.out]; rfl, rfl⟩
theorem refMay_any (s : ByteArray) (g : Int) (w : World) (hz : s.size ≤ 140737488351232) :
    Calls Try.prog 17 #[.string s, .int .i64 g] w fun e w' => e = .returned (.bool (mayB s g)) ∧ w' = w := by
  obtain ⟨d2, h2⟩ : ∃ d, decide (s.size ≤ 64) = d := ⟨_, rfl⟩
  obtain ⟨d3, h3⟩ : ∃ d, decide (0 ≤ g) = d := ⟨_, rfl⟩
  have k2 : decide ((s.size : Int) ≤ 64) = d2 := by rw [← h2]; exact decide_eq_decide.2 (by omega)
  by_cases h0 : s.size = 0
  · have e0 : s = ⟨#[]⟩ := by
      cases s with
      | mk d =>
        have : d = #[] := Array.eq_empty_of_size_eq_zero h0
        rw [this]
    subst e0
    have HM := Lib.hid (mayB_false (s := ⟨#[]⟩) (g := g) (fun h => by have h1 : 1 ≤ ByteArray.size ⟨#[]⟩ := h.1; exact absurd h1 (by decide)))
    clear k2 h2 h3 h0
    go_enter Try.func17, Try.ntmps17
    go_wp2
    go_ret
    exact ⟨by rw [HM.out]; rfl, rfl⟩
  · have e1 : ¬ s.toList = [] ∧ s.toList.isEmpty = false := by
      rw [ByteArray.toList_eq]
      have h1 : ¬ s.data.toList = [] := fun e => h0 (by
        have : s.data.toList.length = 0 := by rw [e]; rfl
        simpa using this)
      refine ⟨h1, ?_⟩
      cases h2 : s.data.toList with
      | nil => exact absurd h2 h1
      | cons _ _ => rfl
    obtain ⟨e1, e2⟩ := e1
    have HM := Lib.hid (show mayB s g = (d2 && d3) from by unfold mayB; rw [h2, h3, decide_eq_true (by omega : 1 ≤ s.size)]; rfl)
    cases d2 <;> cases d3
    all_goals
      go_enter Try.func17, Try.ntmps17
      go_wp2
      go_ret
      exact ⟨by rw [HM.out]; rfl, rfl⟩
theorem acc_lit (w : World) (u : UInt8) (g : Nat) (hg : g = w.heap.size) : Acc w (w.alloc (.cells #[bV u] 5)) (some ⟨g, 0, none⟩) 1 1 [u] := by
  subst hg
  exact ⟨World.ownsRow_lit w #[bV u] 1 (Nat.le_refl _) (by unfold maxLen; omega) rfl, (Below.refl _ _).alloc (Nat.le_refl _) _⟩
theorem Acc.bytesE {w w0 w' : World} {A : Option Addr} {m c : Nat} {L : List UInt8} (h : Acc w0 w' A m c L) (b : Below w.heap.size w w0) : NewBytesE w L 0 (.returned (.tuple #[.slice A m c, .int .i64 0])) w' := by
  have hl := h.len
  obtain ⟨A', c', e, h1, h2⟩ := own_slice h.own
  injection e with _ _ e3
  subst e3
  exact ⟨A, m, c, rfl, Sl.of_own h.own, h1, h2, b.trans (h.below.mono b.size), own_lower h.own b.size⟩
theorem sealE_no {s : ByteArray} {g : Int} {l : List Sp} (h : ¬ (mayB s g = true ∧ rightS l = true)) : sealE s g l = ([], 1) := if_neg h
theorem sealE_yes {s : ByteArray} {g : Int} {l : List Sp} (h : mayB s g = true ∧ rightS l = true) : sealE s g l = (bodyB g l ++ markB s (bodyB g l), 0) := if_pos h
theorem setB_len {l : List Sp} (h : l.length ≤ 1024) : (setB l).length ≤ 30000 := by
  unfold setB
  rw [List.length_append]
  have h1 := putN_len 8 l.length
  have h2 := spsB_len l
  omega
set_option maxHeartbeats 2000000 in
set_option maxRecDepth 100000 in
theorem seal_any (s : ByteArray) (g : Int) (B : Option Addr) (n k : Nat) (l : List Sp) (w : World) (hs : SlS w B n l) (hn : n ≤ 140737488351232) (hz : s.size ≤ 140737488351232) (hg : g ≤ 9223372036854775807) :
    Calls Try.prog 9 #[.string s, .int .i64 g, .slice B n k] w (NewBytesE w (sealE s g l).1 (sealE s g l).2) := by
  obtain ⟨i0, hi, hz0, hz1, hz2⟩ := info_parts Try.infoU8
  have hll := hs.len
  have c1 := putSet_any w B n k l hs hn
  unfold putSetE at c1
  clear hs
  cases hr : rightS l
  · rw [hr] at c1
    have C1 := Lib.hid c1
    rw [sealE_no (fun h => by rw [hr] at h; cases h.2)]
    clear c1 hr
    go_enter Try.func9, Try.ntmps9
    go_wp2_with fail
    refine C1.out.mono ?_
    rintro e w1 ⟨A1, n1, c1, rfl, -, -, -, b1, -⟩
    have HB := Lib.hid b1
    clear b1 C1
    go_wp2
    go_ret2
    exact NewBytesE.nil HB.out
  · rw [hr] at c1
    have C1 := Lib.hid c1
    have hsl := setB_len (rightS_true.1 hr).2
    have HR := Lib.hid hr
    clear c1 hr
    have C2 := Lib.hid (fun W : World => may_any s g W hz)
    cases hm : mayB s g
    · rw [sealE_no (fun h => by rw [hm] at h; cases h.1)]
      rw [hm] at C2
      clear hm
      go_enter Try.func9, Try.ntmps9
      go_wp2_with fail
      refine C1.out.mono ?_
      rintro e w1 ⟨A1, n1, c1, rfl, -, -, -, b1, -⟩
      have HB := Lib.hid b1
      clear b1 C1
      go_wp2_with fail
      refine (C2.out _).mono ?_
      rintro e w2 ⟨rfl, rfl⟩
      go_wp2
      go_ret2
      exact NewBytesE.nil HB.out
    · rw [sealE_yes ⟨hm, HR.out⟩]
      have hmm := mayB_true.1 hm
      rw [hm] at C2
      clear hm
      go_enter Try.func9, Try.ntmps9
      go_wp2_with fail
      refine C1.out.mono ?_
      rintro e w1 ⟨A1, n1, c1, rfl, s1, -, -, b1, -⟩
      have HB := Lib.hid b1
      have HS1 := Lib.hid (show SlB w1 A1 n1 (setB l) from s1)
      have hn1 : n1 ≤ 30000 := by have : (setB l).length = n1 := s1.len; omega
      clear b1 s1 C1
      go_wp2_with fail
      refine (C2.out _).mono ?_
      rintro e w2 ⟨rfl, rfl⟩
      have HL := Lib.hid (acc_lit w2 1 w2.heap.size rfl)
      have C3 := Lib.hid (fun W : World => putNum_any g W hg)
      go_wp2_with fail
      refine (C3.out _).mono ?_
      intro e w3 h3
      obtain ⟨A3, n3, c3, rfl, s3, hc3, hm3, b3, -⟩ := h3.read
      have l3 := s3.len
      have p3 := putNum_len g
      have hn3 : n3 ≤ 9 := by omega
      have HC := Lib.hid (HL.out.move b3)
      have HT3 := Lib.hid s3
      clear C3 h3 b3 s3 l3 p3 HL C2
      have hszq := HC.out.below.size
      go_wp2_with (first | (at_builtin; refine wpList_append_sl _ rfl (.tmp 24) (.tmp 26) 25 rfl (w2.heap.size) 5 i0 (.int .u8 0) 1 1 Try.underlying25 hi hz0 hz1 hz2 rfl (by decide) (.slice (some ⟨w2.heap.size, 0, none⟩) (1) 1) (1) (bsV ([(1 : UInt8)])) rfl (HC.out.own) (A3) (n3) (c3) (bsV (putNum g)) rfl (HT3.out) (bsV_one _) (by unfold maxLen; omega) (by omega) (hszq) ?_) | fail)
      intro v wm ownm gm _
      obtain ⟨Am, cm, rfl, -, -⟩ := own_slice ownm
      have HD := Lib.hid (HC.out.push ownm gm)
      clear ownm gm hszq
      have hd := HD.out
      have hl1 : ([(1 : UInt8)] ++ putNum g).length = 1 + n3 := hd.len
      obtain ⟨X1, hX1⟩ : ∃ X1, [(1 : UInt8)] ++ putNum g = X1 := ⟨_, rfl⟩
      rw [hX1] at hd hl1
      have HX1 := Lib.hid hX1
      have HD1 := Lib.hid hd
      obtain ⟨A5, e5⟩ : ∃ A5, A5 = Am := ⟨_, rfl⟩
      subst e5
      obtain ⟨c5, e5⟩ : ∃ c5, c5 = cm := ⟨_, rfl⟩
      subst e5
      clear hX1 hd hl1
      have hszq := HD1.out.below.size
      go_wp2_with (first | (at_builtin; refine wpList_append_sl _ rfl (.tmp 27) (.tmp 28) 25 rfl (w2.heap.size) 5 i0 (.int .u8 0) 1 1 Try.underlying25 hi hz0 hz1 hz2 rfl (by decide) (.slice A5 (1 + n3) c5) (1 + n3) (bsV (X1)) rfl (HD1.out.own) (A1) (n1) (c1) (bsV (setB l)) rfl ((HS1.out.below HD1.out.below)) (bsV_one _) (by unfold maxLen; omega) (by omega) (hszq) ?_) | fail)
      intro v wm ownm gm _
      obtain ⟨Am, cm, rfl, -, -⟩ := own_slice ownm
      have HD := Lib.hid (HD1.out.push ownm gm)
      clear ownm gm hszq
      have HE := Lib.hid (show Acc w2 _ Am (1 + n3 + n1) cm (bodyB g l) from by unfold bodyB; rw [HX1.out]; exact HD.out)
      have hle : 1 + n3 + n1 ≤ 30010 := by omega
      have C5 := Lib.hid (fun W (h : SlB W Am (1 + n3 + n1) (bodyB g l)) => mark_any s Am (1 + n3 + n1) cm (bodyB g l) W h (by omega) (by omega))
      obtain ⟨A6, e6⟩ : ∃ A6, A6 = Am := ⟨_, rfl⟩
      subst e6
      obtain ⟨c6, e6⟩ : ∃ c6, c6 = cm := ⟨_, rfl⟩
      subst e6
      go_wp2_with fail
      refine (C5.out _ (Sl.of_own HE.out.own)).mono ?_
      rintro e w6 ⟨A7, c7, rfl, hc7, s7, b7⟩
      have HE7 := Lib.hid (HE.out.move b7)
      have HS7 := Lib.hid s7
      clear s7 b7 C5 HD HD1
      have hszq := HE7.out.below.size
      go_wp2_with (first | (at_builtin; refine wpList_append_sl _ rfl (.tmp 30) (.tmp 33) 25 rfl (w2.heap.size) 5 i0 (.int .u8 0) 1 1 Try.underlying25 hi hz0 hz1 hz2 rfl (by decide) (.slice A6 (1 + n3 + n1) c6) (1 + n3 + n1) (bsV (bodyB g l)) rfl (HE7.out.own) (A7) (8) (c7) (bsV (markB s (bodyB g l))) rfl (HS7.out) (bsV_one _) (by unfold maxLen; omega) (by omega) (hszq) ?_) | fail)
      intro v wm ownm gm _
      obtain ⟨Am, cm, rfl, -, -⟩ := own_slice ownm
      have HD := Lib.hid (HE7.out.push ownm gm)
      clear ownm gm hszq
      go_wp2
      go_ret2
      exact HD.out.bytesE HB.out
set_option maxHeartbeats 2000000 in
set_option maxRecDepth 100000 in
theorem refSeal_any (s : ByteArray) (g : Int) (B : Option Addr) (n k : Nat) (l : List Sp) (w : World) (hs : SlS w B n l) (hn : n ≤ 140737488351232) (hz : s.size ≤ 140737488351232) (hg : g ≤ 9223372036854775807) :
    Calls Try.prog 10 #[.string s, .int .i64 g, .slice B n k] w (NewBytesE w (sealE s g l).1 (sealE s g l).2) := by
  obtain ⟨i0, hi, hz0, hz1, hz2⟩ := info_parts Try.infoU8
  have hll := hs.len
  have C2 := Lib.hid (fun W : World => refMay_any s g W hz)
  have c1 := refRightS_any B n k l w hs hn
  have HS := Lib.hid hs
  clear hs
  cases hm : mayB s g
  · rw [sealE_no (fun h => by rw [hm] at h; cases h.1)]
    rw [hm] at C2
    clear hm
    go_enter Try.func10, Try.ntmps10
    go_wp2_with fail
    refine (C2.out _).mono ?_
    rintro e w2 ⟨rfl, rfl⟩
    go_wp2
    go_ret2
    exact NewBytesE.nil (Below.refl _ _)
  · have hmm := mayB_true.1 hm
    rw [hm] at C2
    have HM := Lib.hid hm
    clear hm
    cases hr : rightS l
    · rw [hr] at c1
      have C1 := Lib.hid c1
      rw [sealE_no (fun h => by rw [hr] at h; cases h.2)]
      clear c1 hr
      go_enter Try.func10, Try.ntmps10
      go_wp2_with fail
      refine (C2.out _).mono ?_
      rintro e w2 ⟨rfl, rfl⟩
      go_wp2_with fail
      refine C1.out.mono ?_
      rintro e w1 ⟨rfl, b1⟩
      have HB := Lib.hid b1
      clear b1 C1
      go_wp2
      go_ret2
      exact NewBytesE.nil HB.out
    · rw [hr] at c1
      have C1 := Lib.hid c1
      rw [sealE_yes ⟨HM.out, hr⟩]
      have hsl := setB_len (rightS_true.1 hr).2
      have HR := Lib.hid hr
      clear c1 hr
      go_enter Try.func10, Try.ntmps10
      go_wp2_with fail
      refine (C2.out _).mono ?_
      rintro e w2 ⟨rfl, rfl⟩
      go_wp2_with fail
      refine C1.out.mono ?_
      rintro e w1 ⟨rfl, b1⟩
      have HB := Lib.hid b1
      have C3 := Lib.hid (refPutNum_any 1 w1 (by omega))
      clear b1 C1 C2
      go_wp2_with fail
      refine C3.out.mono ?_
      intro e w3 h3
      obtain ⟨A3, n3, c3, rfl, s3, hc3, hm3, b3, o3⟩ := h3.read
      have e1 : putNum 1 = [(1 : UInt8)] := by decide
      have l3 := s3.len
      rw [e1] at l3 o3
      have hn3 : n3 = 1 := l3.symm
      subst hn3
      have HC := Lib.hid (show Acc w1 w3 A3 1 c3 [(1 : UInt8)] from ⟨o3, b3⟩)
      have C4 := Lib.hid (fun W : World => refPutNum_any g W hg)
      clear C3 h3 b3 s3 l3 o3 e1
      go_wp2_with fail
      refine (C4.out _).mono ?_
      intro e w4 h4
      obtain ⟨A4, n4, c4, rfl, s4, hc4, hm4, b4, -⟩ := h4.read
      have l4 := s4.len
      have p4 := putNum_len g
      have hn4 : n4 ≤ 9 := by omega
      have HC4 := Lib.hid (HC.out.move b4)
      have HT4 := Lib.hid s4
      clear C4 h4 b4 s4 l4 p4 HC
      have hszq := HC4.out.below.size
      go_wp2_with (first | (at_builtin; refine wpList_append_sl _ rfl (.tmp 20) (.tmp 22) 25 rfl (w1.heap.size) 5 i0 (.int .u8 0) 1 1 Try.underlying25 hi hz0 hz1 hz2 rfl (by decide) (.slice A3 (1) c3) (1) (bsV ([(1 : UInt8)])) rfl (HC4.out.own) (A4) (n4) (c4) (bsV (putNum g)) rfl (HT4.out) (bsV_one _) (by unfold maxLen; omega) (by omega) (hszq) ?_) | fail)
      intro v wm ownm gm _
      obtain ⟨Am, cm, rfl, -, -⟩ := own_slice ownm
      have HD := Lib.hid (HC4.out.push ownm gm)
      clear ownm gm hszq
      have hd := HD.out
      obtain ⟨X1, hX1⟩ : ∃ X1, [(1 : UInt8)] ++ putNum g = X1 := ⟨_, rfl⟩
      rw [hX1] at hd
      have HX1 := Lib.hid hX1
      have HD1 := Lib.hid hd
      obtain ⟨A5, e5⟩ : ∃ A5, A5 = Am := ⟨_, rfl⟩
      subst e5
      obtain ⟨c5, e5⟩ : ∃ c5, c5 = cm := ⟨_, rfl⟩
      subst e5
      clear hX1 hd HD
      have C6 := Lib.hid (refPutSet_any wm B n k l (Sl.below HS.out (HB.out.trans (HD1.out.below.mono HB.out.size))) HR.out)
      go_wp2_with fail
      refine C6.out.mono ?_
      intro e w6 h6
      obtain ⟨A6, n6, c6, rfl, s6, hc6, hm6, b6, -⟩ := h6.read
      have hn6 : n6 ≤ 30000 := by have := s6.len; omega
      have HC6 := Lib.hid (HD1.out.move b6)
      have HT6 := Lib.hid s6
      clear C6 h6 b6 s6
      have hszq := HC6.out.below.size
      go_wp2_with (first | (at_builtin; refine wpList_append_sl _ rfl (.tmp 24) (.tmp 26) 25 rfl (w1.heap.size) 5 i0 (.int .u8 0) 1 1 Try.underlying25 hi hz0 hz1 hz2 rfl (by decide) (.slice A5 (1 + n4) c5) (1 + n4) (bsV (X1)) rfl (HC6.out.own) (A6) (n6) (c6) (bsV (setB l)) rfl (HT6.out) (bsV_one _) (by unfold maxLen; omega) (by omega) (hszq) ?_) | fail)
      intro v wm ownm gm _
      obtain ⟨Am, cm, rfl, -, -⟩ := own_slice ownm
      have HD := Lib.hid (HC6.out.push ownm gm)
      clear ownm gm hszq
      have HE := Lib.hid (show Acc w1 _ Am (1 + n4 + n6) cm (bodyB g l) from by unfold bodyB; rw [HX1.out]; exact HD.out)
      have hle : 1 + n4 + n6 ≤ 30010 := by omega
      have C5 := Lib.hid (fun W (h : SlB W Am (1 + n4 + n6) (bodyB g l)) => refMark_any s Am (1 + n4 + n6) cm (bodyB g l) W h (by omega) (by omega))
      obtain ⟨A7, e7⟩ : ∃ A7, A7 = Am := ⟨_, rfl⟩
      subst e7
      obtain ⟨c7, e7⟩ : ∃ c7, c7 = cm := ⟨_, rfl⟩
      subst e7
      go_wp2_with fail
      refine (C5.out _ (Sl.of_own HE.out.own)).mono ?_
      rintro e w8 ⟨A8, c8, rfl, hc8, s8, b8⟩
      have HE8 := Lib.hid (HE.out.move b8)
      have HS8 := Lib.hid s8
      clear s8 b8 C5 HD HD1
      have hszq := HE8.out.below.size
      go_wp2_with (first | (at_builtin; refine wpList_append_sl _ rfl (.tmp 31) (.tmp 32) 25 rfl (w1.heap.size) 5 i0 (.int .u8 0) 1 1 Try.underlying25 hi hz0 hz1 hz2 rfl (by decide) (.slice A7 (1 + n4 + n6) c7) (1 + n4 + n6) (bsV (bodyB g l)) rfl (HE8.out.own) (A8) (8) (c8) (bsV (markB s (bodyB g l))) rfl (HS8.out) (bsV_one _) (by unfold maxLen; omega) (by omega) (hszq) ?_) | fail)
      intro v wm ownm gm _
      obtain ⟨Am, cm, rfl, -, -⟩ := own_slice ownm
      have HD := Lib.hid (HE8.out.push ownm gm)
      clear ownm gm hszq
      go_wp2
      go_ret2
      exact HD.out.bytesE HB.out
end Go.Proofs.Ytlhcohpcjleekaa
