/-
  frame.Put, firthref02.cat and firthref02.Put: a frame's bytes.
-/
import Derived.Test.YtgnedaihchmoaaaMH
import Derived.Test.YtgnedaihchmoaaaMB
namespace Go.Proofs.Ytgnedaihchmoaaa
open Go.RowKit
set_option linter.unusedVariables false

theorem cell_lit_new (w : World) (cs : Array Value) (t : TypeId) (l : List Value) (hl : cs.toList = l) : ∀ j u, l[j]? = some u → (w.alloc (.cells cs t)).cell? ((⟨w.heap.size, 0, none⟩ : Addr).add j) = some u := by
  subst hl
  intro j u hj
  rw [add_plain', Nat.zero_add, cell_of_row _ w.heap.size j cs t (0, 0) (heap_alloc_new w _)]
  simpa using hj
theorem NewBytes.wide {w w0 w' : World} {l : List UInt8} {e : Ending} (h : NewBytes w0 l e w') (b : Below w.heap.size w w0) : NewBytes w l e w' := by
  obtain ⟨v, h1, h2, h3⟩ := h
  exact ⟨v, h1, own_lower h2 b.size, b.trans (h3.mono b.size)⟩

set_option maxHeartbeats 1000000 in
set_option maxRecDepth 100000 in
theorem cat_any (A1 A2 : Option Addr) (n1 n2 c1 c2 : Nat) (l1 l2 : List UInt8) (w : World) (h1 : SlB w A1 n1 l1) (h2 : SlB w A2 n2 l2) (hn : n1 + n2 ≤ 140737488355328) :
    Calls Try.prog 90 #[.slice A1 n1 c1, .slice A2 n2 c2] w (NewBytes w (l1 ++ l2)) := by
  obtain ⟨i0, hi, hz0, hz1, hz2⟩ := info_parts Try.infoU8
  have e1 := h1.len
  have e2 := h2.len
  go_enter Try.func90, Try.ntmps90
  go_wp2_with (at_builtin; refine wpList_append_sl _ rfl (.tmp 6) (.tmp 7) 31 rfl (w.heap.size) 5 i0 (.int .u8 0) 1 1 Try.underlying31 hi hz0 hz1 hz2 rfl (by decide) (.slice none 0 0) (0) ([]) rfl (World.ownsRow_nil _ _ _ _) (A1) (n1) (c1) (bsV l1) rfl (h1) (bsV_one _) (by unfold maxLen; omega) (by omega) (Nat.le_refl _) ?_)
  intro v2 w2 own2 g2 _
  have q2 : Below w.heap.size w w2 := below_grow (Below.refl _ _) (World.ownsRow_nil _ w.heap.size 5 1) g2 (Nat.le_refl _) (Nat.le_refl _)
  have z2 := q2.size
  clear g2
  go_wp2_with (at_builtin; refine wpList_append_sl _ rfl (.tmp 9) (.tmp 10) 31 rfl (w.heap.size) 5 i0 (.int .u8 0) 1 1 Try.underlying31 hi hz0 hz1 hz2 rfl (by decide) (v2) (n1) (bsV l1) rfl (own2) (A2) (n2) (c2) (bsV l2) rfl (Sl.below h2 q2) (bsV_one _) (by unfold maxLen; omega) (by omega) (z2) ?_)
  intro v3 w3 own3 g3 _
  have q3 : Below w.heap.size w w3 := below_grow q2 own2 g3 z2 (Nat.le_refl _)
  clear g3 own2
  go_wp2
  go_ret
  refine ⟨v3, rfl, ?_, q3⟩
  rw [bsV_append, List.length_append, e1, e2]
  simpa using own3

theorem own_snoc {w : World} {base : Nat} {e : TypeId} {v : Value} {acc0 acc : List UInt8} {x : UInt8} {u : Value} {n : Nat} (h : w.ownsRow base e 1 v n (bsV acc0 ++ [u])) (ha : acc = acc0 ++ [x]) (hu : u = bV x) (hn : n = acc.length) :
    w.ownsRow base e 1 v acc.length (bsV acc) := by
  subst ha hu hn
  rw [bsV_append]
  exact h
theorem bV_ofNat {m : Nat} {v : Int} (h : v = ((m % 256 : Nat) : Int)) : Value.int .u8 v = bV (UInt8.ofNat (m % 256)) := by
  subst h
  unfold bV
  rw [UInt8.toNat_ofNat', Nat.mod_mod_of_dvd _ (by decide)]

theorem le4_cells {s : Nat} (h : s < 4294967296) : bsV (le4 s) = [Value.int .u8 ((s : Int) % 256), Value.int .u8 ((s : Int) / 256 % 256), Value.int .u8 ((s : Int) / 65536 % 256), Value.int .u8 ((s : Int) / 16777216)] := by
  unfold le4
  rw [bV_ofNat (m := s) (v := (s : Int) % 256) (by omega), bV_ofNat (m := s / 256) (v := (s : Int) / 256 % 256) (by omega), bV_ofNat (m := s / 65536) (v := (s : Int) / 65536 % 256) (by omega), bV_ofNat (m := s / 16777216) (v := (s : Int) / 16777216) (by omega)]
  rfl


set_option maxHeartbeats 2000000 in
set_option maxRecDepth 100000 in
theorem framePut_any (A : Option Addr) (n c : Nat) (l : List UInt8) (w : World) (h : SlB w A n l) (hn : n ≤ 1048576) (hc : n ≤ c) :
    Calls Try.prog 41 #[.slice A n c] w fun e w' => ∃ Ar nr cr, e = .returned (.tuple #[.slice Ar nr cr, .int .i64 0]) ∧ SlB w' Ar nr (putF l) ∧ nr ≤ cr ∧ w'.ownsRow w.heap.size 5 1 (.slice Ar nr cr) nr (bsV (putF l)) ∧ Below w.heap.size w w' := by
  obtain ⟨i0, hi, hz0, hz1, hz2⟩ := info_parts Try.infoU8
  have e1 := h.len
  subst e1
  have hpl := putNum_len (l.length : Int)
  obtain ⟨pl1, pl2⟩ := hpl
  go_enter Try.func41, Try.ntmps41
  go_wp2_with fail
  refine (putNum_any (l.length : Int) _ (by omega)).mono ?_
  intro e w1 h1
  obtain ⟨A1, n1, c1, rfl, p1, m1, -, q1, own1⟩ := h1.read
  clear h1
  have z1 := q1.size
  have S1 := Sl.below h q1
  have e2 := p1.len
  have D := Lib.hid (frameSum_any (some ⟨w1.heap.size, 0, none⟩) 2 2 [putNum l.length, l] (w1.alloc (.cells #[.slice A1 n1 c1, .slice A l.length c] 31)) (SlBB.lit2 _ p1 S1 m1 hc (by omega) (by omega)) (by omega))
  have q2 := q1.alloc z1 (.cells #[.slice A1 n1 c1, .slice A l.length c] 31)
  go_wp2_with fail
  refine D.out.mono ?_
  rintro e w2 ⟨rfl, rfl⟩
  obtain ⟨s, hs⟩ : ∃ s, s = sumB ([putNum (l.length : Int), l] : List (List UInt8)).flatten := ⟨_, rfl⟩
  rw [← hs]
  have hs32 : s < 4294967296 := by rw [hs]; exact sumB_lt _
  have HS := Lib.hid hs
  have O1 : (w1.alloc (.cells #[.slice A1 n1 c1, .slice A l.length c] 31)).ownsRow w.heap.size 5 1 (.slice A1 n1 c1) (putNum (l.length : Int)).length (bsV (putNum l.length)) := by rw [e2]; exact own1.alloc _
  clear D hs own1 p1
  go_wp2
  go_loopw [4, 17] (fun v i wr => ∃ k : Nat, i = .int .i64 (k : Int) ∧ k ≤ 4 ∧ wr.ownsRow w.heap.size 5 1 v (putNum (l.length : Int) ++ (le4 s).take k).length (bsV (putNum (l.length : Int) ++ (le4 s).take k)) ∧ Below w.heap.size w wr) (fun _ i _ => 4 - (intOf i).toNat)
  case atStart => exact ⟨0, rfl, by omega, by rw [List.take_zero, List.append_nil]; exact O1, q2⟩
  case round =>
    obtain ⟨k, rfl, hk, hown, hbel⟩ := hrel
    have hsz := hbel.size
    have hlen : (putNum (l.length : Int) ++ (le4 s).take k).length ≤ 13 := by simp [le4_len]; omega
    have e3 := e2
    match k, hk with
    | 0, _ =>
      go_wp2_with (at_builtin; refine wpList_append_own _ rfl _ _ 31 rfl (w.heap.size) 5 i0 (.int .u8 0) 1 1 Try.underlying31 hi hz0 hz1 hz2 rfl (by decide) _ _ _ rfl (World.ownsRow.alloc hown _) ⟨(wr).heap.size, 0, none⟩ 1 1 _ rfl rfl (cell_one_new _ _ _) (by intro u hu; simp at hu; subst hu; rfl) (by unfold maxLen; omega) (by omega) (by simp; omega) ?_)
      intro v' w3 hown' hgrow _
      have R1 := own_snoc (acc := putNum (l.length : Int) ++ (le4 s).take (0 + 1)) hown' (by first | rfl | (rw [List.append_assoc]; rfl)) (bV_ofNat (m := s) (by omega)) (by simp [le4_len]; omega)
      have R2 := below_push hbel hown hgrow hsz (Nat.le_refl _)
      clear hown' hgrow hown hbel
      go_wp2
      go_roundw
      case rel => exact ⟨0 + 1, by first | rfl | go_num, by omega, R1, R2⟩
      case measure => simp [intOf]
    | 1, _ =>
      go_wp2_with (at_builtin; refine wpList_append_own _ rfl _ _ 31 rfl (w.heap.size) 5 i0 (.int .u8 0) 1 1 Try.underlying31 hi hz0 hz1 hz2 rfl (by decide) _ _ _ rfl (World.ownsRow.alloc hown _) ⟨(wr).heap.size, 0, none⟩ 1 1 _ rfl rfl (cell_one_new _ _ _) (by intro u hu; simp at hu; subst hu; rfl) (by unfold maxLen; omega) (by omega) (by simp; omega) ?_)
      intro v' w3 hown' hgrow _
      have R1 := own_snoc (acc := putNum (l.length : Int) ++ (le4 s).take (1 + 1)) hown' (by first | rfl | (rw [List.append_assoc]; rfl)) (bV_ofNat (m := s / 256) (by omega)) (by simp [le4_len]; omega)
      have R2 := below_push hbel hown hgrow hsz (Nat.le_refl _)
      clear hown' hgrow hown hbel
      go_wp2
      go_roundw
      case rel => exact ⟨1 + 1, by first | rfl | go_num, by omega, R1, R2⟩
      case measure => simp [intOf]
    | 2, _ =>
      go_wp2_with (at_builtin; refine wpList_append_own _ rfl _ _ 31 rfl (w.heap.size) 5 i0 (.int .u8 0) 1 1 Try.underlying31 hi hz0 hz1 hz2 rfl (by decide) _ _ _ rfl (World.ownsRow.alloc hown _) ⟨(wr).heap.size, 0, none⟩ 1 1 _ rfl rfl (cell_one_new _ _ _) (by intro u hu; simp at hu; subst hu; rfl) (by unfold maxLen; omega) (by omega) (by simp; omega) ?_)
      intro v' w3 hown' hgrow _
      have R1 := own_snoc (acc := putNum (l.length : Int) ++ (le4 s).take (2 + 1)) hown' (by first | rfl | (rw [List.append_assoc]; rfl)) (bV_ofNat (m := s / 65536) (by omega)) (by simp [le4_len]; omega)
      have R2 := below_push hbel hown hgrow hsz (Nat.le_refl _)
      clear hown' hgrow hown hbel
      go_wp2
      go_roundw
      case rel => exact ⟨2 + 1, by first | rfl | go_num, by omega, R1, R2⟩
      case measure => simp [intOf]
    | 3, _ =>
      go_wp2_with (at_builtin; refine wpList_append_own _ rfl _ _ 31 rfl (w.heap.size) 5 i0 (.int .u8 0) 1 1 Try.underlying31 hi hz0 hz1 hz2 rfl (by decide) _ _ _ rfl (World.ownsRow.alloc hown _) ⟨(wr).heap.size, 0, none⟩ 1 1 _ rfl rfl (cell_one_new _ _ _) (by intro u hu; simp at hu; subst hu; rfl) (by unfold maxLen; omega) (by omega) (by simp; omega) ?_)
      intro v' w3 hown' hgrow _
      have R1 := own_snoc (acc := putNum (l.length : Int) ++ (le4 s).take (3 + 1)) hown' (by first | rfl | (rw [List.append_assoc]; rfl)) (bV_ofNat (m := s / 16777216) (by omega)) (by simp [le4_len]; omega)
      have R2 := below_push hbel hown hgrow hsz (Nat.le_refl _)
      clear hown' hgrow hown hbel
      go_wp2
      go_roundw
      case rel => exact ⟨3 + 1, by first | rfl | go_num, by omega, R1, R2⟩
      case measure => simp [intOf]
    | 4, _ =>
      have S2 := Sl.below h hbel
      go_wp2_with (at_builtin; refine wpList_append_sl _ rfl (.tmp 29) (.tmp 30) 31 rfl (w.heap.size) 5 i0 (.int .u8 0) 1 1 Try.underlying31 hi hz0 hz1 hz2 rfl (by decide) (_) ((putNum (l.length : Int) ++ (le4 s).take 4).length) (bsV (putNum (l.length : Int) ++ (le4 s).take 4)) rfl (hown) (A) (l.length) (c) (bsV l) rfl (S2) (bsV_one _) (by unfold maxLen; omega) (by omega) (hsz) ?_)
      intro v3 w3 own3 g3 _
      have R2 := below_grow hbel hown g3 hsz (Nat.le_refl _)
      have HF : Hid (putF l = putNum (l.length : Int) ++ (le4 s).take 4 ++ l) := by
        show _ = _
        unfold putF
        rw [HS.out]
        simp [le4]
      obtain ⟨Ar, cr, rfl, hcr, _⟩ := own_slice own3
      have O3 := own3
      rw [← bsV_append, ← HF.out] at O3
      clear own3 g3 hown hbel S2
      go_wp2
      go_ret2
      exact ⟨Ar, _, cr, rfl, Sl.of_own O3, hcr, O3, R2⟩
    | k + 5, hk => omega

theorem framePut_long (A : Option Addr) (n c : Nat) (w : World) (hn : 1048576 < n) (hm : n ≤ 140737488351232) :
    Calls Try.prog 41 #[.slice A n c] w fun e w' => e = .returned (.tuple #[.slice none 0 0, .int .i64 3]) ∧ w = w' := by
  go_enter Try.func41, Try.ntmps41
  go_wp2
  go_ret2
  exact ⟨rfl, rfl⟩

set_option maxHeartbeats 2000000 in
set_option maxRecDepth 100000 in
theorem refPutF_any (A : Option Addr) (n c : Nat) (l : List UInt8) (w : World) (h : SlB w A n l) (hn : n ≤ 1048576) :
    Calls Try.prog 43 #[.slice A n c] w (NewBytes w (putF l)) := by
  obtain ⟨i0, hi, hz0, hz1, hz2⟩ := info_parts Try.infoU8
  have e1 := h.len
  subst e1
  have hpl := putNum_len (l.length : Int)
  obtain ⟨pl1, pl2⟩ := hpl
  go_enter Try.func43, Try.ntmps43
  go_wp2_with fail
  refine (refPutNum_any (l.length : Int) _ (by omega)).mono ?_
  intro e w1 h1
  obtain ⟨A1, n1, c1, rfl, p1, m1, -, q1, own1⟩ := h1.read
  clear h1
  have z1 := q1.size
  have S1 := Sl.below h q1
  have e2 := Lib.hid p1.len
  have hn1 : n1 ≤ 9 := by have := e2.out; omega
  go_wp2_with fail
  refine (cat_any A1 A n1 l.length c1 c _ l w1 p1 S1 (by omega)).mono ?_
  intro e w2 h2
  obtain ⟨A2, n2, c2, rfl, p2, m2, -, q2, -⟩ := h2.read
  clear h2
  have e3 := p2.len
  have hn2 : n2 ≤ 1048585 := by simp at e3; omega
  obtain ⟨s, hs⟩ : ∃ s, s = sumB (putNum (l.length : Int) ++ l) := ⟨_, rfl⟩
  have D := refSum_any A2 n2 c2 _ w2 p2 (by omega)
  rw [← hs] at D
  have hs32 : s < 4294967296 := by rw [hs]; exact sumB_lt _
  have HS := Lib.hid hs
  have D := Lib.hid D
  have own2 := own_below own1 q2
  have q3 := q1.trans (q2.mono z1)
  have z3 := q3.size
  clear hs own1 p1 p2 e3
  go_wp2_with fail
  refine D.out.mono ?_
  rintro e w3 ⟨rfl, rfl⟩
  clear D
  go_wp2_with (at_builtin; refine wpList_append_own _ rfl _ _ 31 rfl (w.heap.size) 5 i0 (.int .u8 0) 1 1 Try.underlying31 hi hz0 hz1 hz2 rfl (by decide) _ _ _ rfl (World.ownsRow.alloc own2 _) ⟨(w2).heap.size, 0, none⟩ 4 4 _ rfl rfl (cell_lit_new _ _ _ _ rfl) (by intro u hu; simp at hu; rcases hu with rfl | rfl | rfl | rfl <;> rfl) (by unfold maxLen; omega) (by omega) (by simp; omega) ?_)
  intro v4 w4 own4 g4 _
  rw [← le4_cells hs32, ← bsV_append] at own4
  have q4 := below_push q3 own2 g4 z3 (Nat.le_refl _)
  have z4 := q4.size
  obtain ⟨A4, c4, rfl, m4, _⟩ := own_slice own4
  have S4 : SlB w4 A4 (n1 + 4) (putNum (l.length : Int) ++ le4 s) := Sl.of_own own4
  have HC := Lib.hid (cat_any A4 A (n1 + 4) l.length c4 c _ l w4 S4 (Sl.below h q4) (by omega))
  have HF : Hid (putF l = putNum (l.length : Int) ++ le4 s ++ l) := by
    show _ = _
    unfold putF
    rw [HS.out]
  clear own4 g4 own2 S4
  go_wp2_with fail
  refine HC.out.mono ?_
  intro e w5 h5
  have h6 := h5.wide q4
  rw [← HF.out] at h6
  obtain ⟨v, rfl, O, B⟩ := h6
  clear h5 HC
  go_wp2
  go_ret
  exact ⟨v, rfl, O, B⟩
end Go.Proofs.Ytgnedaihchmoaaa
