/-
  The walk of firthlaw21.SessKeeps.
-/
import Derived.Test.YtbcgalejebeicaaSessNew
import Derived.Test.YtbcgalejebeicaaSessKeepsPlain
import Derived.OpenShut
namespace Go.Proofs.Ytbcgalejebeicaa
open Go.RowKit
set_option linter.unusedVariables false

/-- Back to what was kept before. -/
theorem SessP.back {K K2 : Nat → Prop} {w1 wb w' : World} {p m : Nat} {sites : Int} {l : List Ses} (h : SessP K2 wb w' p sites l m) (F : Fr (fun b => ¬ K b) w1 wb) (hK : ∀ b, K b → K2 b) (hl : ∀ b, K b → b < w1.heap.size) : SessP K w1 w' p sites l m := by
  obtain ⟨G, fp, hG, h1, h2, h3, h4⟩ := h
  exact ⟨G, fp, hG, h1, fun b hb hk => h2 b hb (hK b hk), F.trans h3 (fun i hi => .inl fun hk => hi (hK i hk)), hl⟩

theorem Sl.fr' {w w' : World} {A : Option Addr} {n sz : Nat} {xs : List Value} {fp : Nat → Prop} (h : Sl w A n sz xs) (F : Fr fp w w') (hf : ∀ b, fp b → w.heap.size ≤ b) : Sl w' A n sz xs :=
  h.below (F.below hf (Nat.le_refl _))
theorem Fr.cell' {w w' : World} {q : Addr} {v : Value} (F : Fr (fun b => ¬ b < w.heap.size) w w') (h : w.cell? q = some v) : w'.cell? q = some v :=
  ((F.toBelow).cell (World.block_lt_of_cell? w q h)).trans h

set_option maxHeartbeats 4000000 in
set_option maxRecDepth 100000 in
theorem sessKeeps_walk (a0 : Option Addr) (len0 cap0 : Nat) (ls : List (List UInt8)) (a1 : Option Addr) (len1 cap1 : Nat) (l1 : List Int) (o : Int) (w : World)
    (r0 : Rd w (.sl 24 (.sl 1 .u8)) [.slice a0 len0 cap0] ls) (r1 : Rd w (.sl 8 (.int .i64)) [.slice a1 len1 cap1] l1) (w2 : (Lit.int .i64 o).wf = true) :
    Calls Try.prog 4 #[.slice a0 len0 cap0, .slice a1 len1 cap1, .int .i64 o] w fun e w' => e = .returned (.bool true) ∧ Below w.heap.size w w' := by
  have s0 := Rd.bytess r0
  obtain ⟨s1, b1, z1⟩ := Rd.ints r1
  obtain ⟨e0, b0, z0, -⟩ := r0.elem
  have hl1 : l1.length = len1 := by have := s1.1; simpa using this
  have hob := bounds_i64 w2
  clear r0 r1 w2
  go_enter Try.func4, Try.ntmps4
  go_wp2_with fail
  refine (awake_any w).mono ?_
  rintro e w1 ⟨rfl, B1⟩
  have y1 := B1.size
  have S0 := s0.below B1
  have S1 := Sl.below s1 B1
  have HB1 := Lib.hid B1
  clear B1 s0 s1
  go_wp2_with fail
  refine (newP 16 w1 (by omega) (by omega)).mono ?_
  rintro e w2 ⟨p, rfl, H2⟩
  have C2 := Lib.hid (show Calls Try.prog 8 #[.pointer (some ⟨p, 0, none⟩), .int .i64 3] w2 (fun e w' => e = .returned (.tuple #[.int .i64 1, .int .i64 0]) ∧ SessP (fun b => b < w1.heap.size) w1 w' p 16 [⟨3, [], 0⟩] 0) from openP 3 H2 (by simp))
  clear H2
  go_wp2_with fail
  refine C2.out.mono ?_
  rintro e w3 ⟨rfl, H3⟩
  have C3 := Lib.hid (show Calls Try.prog 8 #[.pointer (some ⟨p, 0, none⟩), .int .i64 4] w3 (fun e w' => e = .returned (.tuple #[.int .i64 2, .int .i64 0]) ∧ SessP (fun b => b < w1.heap.size) w1 w' p 16 (twoS 3 [] 0 [] 0) 0) from openP 4 H3 (by simp))
  clear H3 C2
  go_wp2_with fail
  refine C3.out.mono ?_
  rintro e w4 ⟨rfl, H4⟩
  have HH4 := Lib.hid H4
  clear H4 C3
  go_wp2
  go_loopw [9, 10, 11] (fun at_ la i wr => ∃ (k : Nat) (a : Int) (A : Option Addr) (n c m : Nat) (t t2 : List UInt8), at_ = .int .i64 a ∧ la = .slice A n c ∧ i = .int .i64 (k : Int) ∧ k ≤ len0 ∧ m ≤ 3 * k ∧ SlB w1 A n t ∧ n ≤ c ∧ n ≤ 140737488351232 ∧ Hid (SessP (fun b => b < w1.heap.size) w1 wr p 16 (twoS a t 0 t2 0) m)) (fun _ _ i _ => len0 - (intOf i).toNat)
  case atStart => exact ⟨0, 3, none, 0, 0, 0, [], [], rfl, rfl, rfl, Nat.zero_le _, Nat.zero_le _, Sl.nil _ _ _, Nat.le_refl _, by omega, HH4⟩
  case round =>
    obtain ⟨k, a, A, n, c, m, t, t2, rfl, rfl, rfl, hk, hm, ST, hnc, hn, HS⟩ := hrel
    by_cases hlt : k < len0
    · obtain ⟨b0, off0, x, Ak, nk, ck, rfl, -, hck0, hsx0, hnck, hnk⟩ := S0.at_ hlt
      have hck := Lib.hid hck0
      have hsx := Lib.hid hsx0
      clear hck0 hsx0
      have hop : (0 : Int) < 2 * (k : Int) + 1 := by omega
      have C := beginP 1 (2 * (k : Int) + 1) HS.out (by unfold maxLen; omega) (WalkArith.wf_i64 (by omega))
      rw [(two_begin1 hop).1, (two_begin1 hop).2] at C
      have HC := Lib.hid C
      clear C HS
      go_wp2_with fail
      refine HC.out.mono ?_
      rintro e w5 ⟨A5, k5, c5, rfl, s5, m5, o5, HA, H5⟩
      have F5 := Lib.hid HA.fr
      have C := beginP 1 (2 * (k : Int) + 1 + 1) H5 (by unfold maxLen; omega) (WalkArith.wf_i64 (by omega))
      rw [(two_busy (by omega) (by omega) (by omega)).1, (two_busy (by omega) (by omega) (by omega)).2] at C
      have HC6 := Lib.hid C
      have HO5 := Lib.hid (And.intro s5 o5)
      clear C H5 HC HA s5 o5
      go_wp2_with fail
      refine HC6.out.mono ?_
      rintro e w6 ⟨A6, k6, c6, rfl, -, -, -, H6, -⟩
      have S6 : SlB w6 A5 k5 t := by
        refine Sl.keepB HO5.out.1 fun b off hn e => ?_
        subst e
        have h1 := HO5.out.2.lt b rfl
        exact H6.fr.block b h1.2 (fun hh => hh (.inr h1))
      have H7 := H6.back F5.out (fun b hb => .inl hb) (fun b hb => hb)
      have T6 : SlB w6 A n t := Sl.fr' ST H7.fr (fun b hb => by omega)
      have qa := run_convert_SlB (P := Try.prog) S6 22 5 9 Try.underlying22 Try.underlying5 Try.underlying9 c5
      have qb := run_convert_SlB (P := Try.prog) T6 22 5 9 Try.underlying22 Try.underlying5 Try.underlying9 c
      have C := goP 1 5 H7
      rw [(two_goBusy (show 2 * (k : Int) + 1 ≠ 0 by omega)).1, (two_goBusy (show 2 * (k : Int) + 1 ≠ 0 by omega)).2] at C
      have HC7 := Lib.hid C
      clear C H6 H7 HC6 HO5 F5 S6 T6
      go_wp2_with fail
      refine HC7.out.mono ?_
      rintro e w7 ⟨rfl, H7⟩
      clear HC7 qa qb
      have HH7 := Lib.hid H7
      clear H7
      cases hq : (↑k % 3 == o.tmod 3)
      · obtain ⟨mm, hmm, HT, tt, htt⟩ : ∃ mm, mm ≤ 3 * k + 3 ∧ ∃ _ : Hid (SessP (fun b => b < w1.heap.size) w1 w7 p 16 (twoS a t (2 * (k : Int) + 1) t2 0) mm), ∃ tt, tt = t2 := ⟨_, by omega, HH7, _, rfl⟩
        subst htt
        clear HH7 hm
        have hcT := HT.out.fr.cell' hck.out
        have SX := Sl.fr' hsx.out HT.out.fr (fun b hb => by omega)
        have C := endP (2 * (k : Int) + 1) Ak nk ck x HT.out (WalkArith.wf_i64 (by omega)) SX hnk hnck (fun b off s hn e => Sl.blk_lt hsx.out (by omega) e)
        rw [two_find1 hop, two_end1 hop] at C
        have HC8 := Lib.hid C
        clear C SX
        go_wp2_with fail
        refine HC8.out.mono ?_
        rintro e w10 ⟨rfl, H10⟩
        have hcT := H10.fr.cell' hck.out
        have SX := Sl.fr' hsx.out H10.fr (fun b hb => by omega)
        have C := endP (2 * (k : Int) + 1) Ak nk ck x H10 (WalkArith.wf_i64 (by omega)) SX hnk hnck (fun b off s hn e => Sl.blk_lt hsx.out (by omega) e)
        rw [two_find0 (by omega) (by omega), two_end0 hop] at C
        have HC8 := Lib.hid C
        clear C SX H10 HT
        go_wp2_with fail
        refine HC8.out.mono ?_
        rintro e w11 ⟨rfl, H11⟩
        have hcT := H11.fr.cell' hck.out
        clear HC8
        by_cases hn0 : nk = 0
        · obtain rfl : x = [] := List.eq_nil_of_length_eq_zero (by have := SlB.len hsx.out; omega)
          subst hn0
          have HE := Lib.hid H11
          have HL := Lib.hid (And.intro ST (And.intro hnc hn))
          clear H11 hsx
          by_cases hs : k < len1
          · obtain ⟨bs, os, u, rfl, hu, hcs⟩ := Sl.at1 S1 hs
            obtain ⟨z, hz, rfl⟩ : ∃ z, l1[k]? = some z ∧ u = .int .i64 z := by
              rw [List.getElem?_map, Option.map_eq_some_iff] at hu
              obtain ⟨z, h1, h2⟩ := hu
              exact ⟨z, h1, h2.symm⟩
            have hcs' := HE.out.fr.cell' hcs
            have HCS := Lib.hid hcs
            clear hu hz hcs
            by_cases hz : 1 ≤ z ∧ z ≤ 16
            · have C := goP 1 z HE.out
              rw [(two_goYes hz).1, (two_goYes hz).2] at C
              have HC9 := Lib.hid C
              clear C
              go_wp2_with fail
              refine HC9.out.mono ?_
              rintro e w12 ⟨rfl, H12⟩
              have hcs2 := H12.fr.cell' HCS.out
              have HH12 := Lib.hid H12
              clear HC9 H12
              go_wp2
              go_roundw
              case rel => exact ⟨k + 1, z, A, n, c, mm, t, tt, rfl, rfl, by go_num, by omega, by omega, HL.out.1, HL.out.2.1, HL.out.2.2, HH12⟩
              case measure => simp [intOf]; omega
            · have C := goP 1 z HE.out
              rw [(two_goNo hz).1, (two_goNo hz).2] at C
              have HC9 := Lib.hid C
              clear C
              go_wp2_with fail
              refine HC9.out.mono ?_
              rintro e w12 ⟨rfl, H12⟩
              have hcs2 := H12.fr.cell' HCS.out
              have HH12 := Lib.hid H12
              have hz' : z < 1 ∨ 16 < z := by omega
              clear HC9 H12 hz
              rcases hz' with hz | hz
              · go_wp2
                go_roundw
                case rel => exact ⟨k + 1, a, A, n, c, mm, t, tt, rfl, rfl, by go_num, by omega, by omega, HL.out.1, HL.out.2.1, HL.out.2.2, HH12⟩
                case measure => simp [intOf]; omega
              · have hz2 : decide (z ≤ 16) = false := by simp; omega
                go_wp2
                go_roundw
                case rel => exact ⟨k + 1, a, A, n, c, mm, t, tt, rfl, rfl, by go_num, by omega, by omega, HL.out.1, HL.out.2.1, HL.out.2.2, HH12⟩
                case measure => simp [intOf]; omega
          · go_wp2
            go_roundw
            case rel => exact ⟨k + 1, a, A, n, c, mm, t, tt, rfl, rfl, by go_num, by omega, by omega, HL.out.1, HL.out.2.1, HL.out.2.2, HE⟩
            case measure => simp [intOf]; omega
        · have hn1 : (0 : Int) < (nk : Int) := by omega
          have hx0 : x ≠ [] := by rintro rfl; have := SlB.len hsx.out; simp at this; omega
          rw [if_neg hx0] at H11
          have HE := Lib.hid H11
          have HL := Lib.hid (And.intro hsx.out (And.intro hnck hnk))
          clear H11 hx0
          by_cases hs : k < len1
          · obtain ⟨bs, os, u, rfl, hu, hcs⟩ := Sl.at1 S1 hs
            obtain ⟨z, hz, rfl⟩ : ∃ z, l1[k]? = some z ∧ u = .int .i64 z := by
              rw [List.getElem?_map, Option.map_eq_some_iff] at hu
              obtain ⟨z, h1, h2⟩ := hu
              exact ⟨z, h1, h2.symm⟩
            have hcs' := HE.out.fr.cell' hcs
            have HCS := Lib.hid hcs
            clear hu hz hcs
            by_cases hz : 1 ≤ z ∧ z ≤ 16
            · have C := goP 1 z HE.out
              rw [(two_goYes hz).1, (two_goYes hz).2] at C
              have HC9 := Lib.hid C
              clear C
              go_wp2_with fail
              refine HC9.out.mono ?_
              rintro e w12 ⟨rfl, H12⟩
              have hcs2 := H12.fr.cell' HCS.out
              have HH12 := Lib.hid H12
              clear HC9 H12
              go_wp2
              go_roundw
              case rel => exact ⟨k + 1, z, Ak, nk, ck, mm, x, tt, rfl, rfl, by go_num, by omega, by omega, HL.out.1, HL.out.2.1, HL.out.2.2, HH12⟩
              case measure => simp [intOf]; omega
            · have C := goP 1 z HE.out
              rw [(two_goNo hz).1, (two_goNo hz).2] at C
              have HC9 := Lib.hid C
              clear C
              go_wp2_with fail
              refine HC9.out.mono ?_
              rintro e w12 ⟨rfl, H12⟩
              have hcs2 := H12.fr.cell' HCS.out
              have HH12 := Lib.hid H12
              have hz' : z < 1 ∨ 16 < z := by omega
              clear HC9 H12 hz
              rcases hz' with hz | hz
              · go_wp2
                go_roundw
                case rel => exact ⟨k + 1, a, Ak, nk, ck, mm, x, tt, rfl, rfl, by go_num, by omega, by omega, HL.out.1, HL.out.2.1, HL.out.2.2, HH12⟩
                case measure => simp [intOf]; omega
              · have hz2 : decide (z ≤ 16) = false := by simp; omega
                go_wp2
                go_roundw
                case rel => exact ⟨k + 1, a, Ak, nk, ck, mm, x, tt, rfl, rfl, by go_num, by omega, by omega, HL.out.1, HL.out.2.1, HL.out.2.2, HH12⟩
                case measure => simp [intOf]; omega
          · go_wp2
            go_roundw
            case rel => exact ⟨k + 1, a, Ak, nk, ck, mm, x, tt, rfl, rfl, by go_num, by omega, by omega, HL.out.1, HL.out.2.1, HL.out.2.2, HE⟩
            case measure => simp [intOf]; omega
      · have C := beginP 2 (2 * (k : Int) + 1 + 1) HH7.out (by unfold maxLen; omega) (WalkArith.wf_i64 (by omega))
        rw [(two_begin2 (by omega) (by omega)).1, (two_begin2 (by omega) (by omega)).2] at C
        have HC8 := Lib.hid C
        clear C
        have kc := fun (w : World) (C : Array Value) (n c : Nat) => Lib.run_convert_bytes_const (P := Try.prog) w 22 5 C n c Try.underlying22 Try.underlying5
        go_wp2_with fail
        refine HC8.out.mono ?_
        rintro e w8 ⟨A8, k8, c8, rfl, -, -, -, H8, -⟩
        have F8 := H8.fr
        have H9 := H8.over (K2 := fun b => b < w1.heap.size ∨ b = w8.heap.size) (w1 := w8.alloc (.cells #[.int .u8 111, .int .u8 116, .int .u8 104, .int .u8 101, .int .u8 114] 5 (5, 6))) ((Below.refl _ _).alloc (Nat.le_refl _) _) (fun b hb => hb.imp id (fun e => by simp; omega))
        have C := endP (2 * (k : Int) + 1 + 1) (some ⟨w8.heap.size, 0, none⟩) 5 5 [111, 116, 104, 101, 114] H9 (WalkArith.wf_i64 (by omega)) (sl_const w8 [111, 116, 104, 101, 114] _ _ _ _ 5 rfl rfl rfl) (by omega) (by omega) (fun b off s _ e => .inr (by injection e with e; injection e with e1; exact e1.symm))
        rw [two_find2 (by omega) (by omega), two_end2 (by omega) (by omega) (by simp)] at C
        have HC9 := Lib.hid C
        have HF9 := Lib.hid (F8.trans (Fr.alloc (fun _ => False) w8 (.cells #[.int .u8 111, .int .u8 116, .int .u8 104, .int .u8 101, .int .u8 114] 5 (5, 6))) (fun _ h => h.elim))
        clear C HC8 F8 H8 H9
        go_wp2_with fail
        refine HC9.out.mono ?_
        rintro e w9 ⟨rfl, H9⟩
        have H9' := H9.back HF9.out (fun b hb => .inl hb) (fun b hb => hb)
        obtain ⟨mm, hmm, HT, tt, htt⟩ : ∃ mm, mm ≤ 3 * k + 3 ∧ ∃ _ : Hid (SessP (fun b => b < w1.heap.size) w1 w9 p 16 (twoS a t (2 * (k : Int) + 1) [111, 116, 104, 101, 114] 0) mm), ∃ tt : List UInt8, tt = [111, 116, 104, 101, 114] := ⟨_, by omega, H9', _, rfl⟩
        rw [← htt] at HT
        clear HH7 hm H9 H9' HC9 HF9 htt kc
        have hcT := HT.out.fr.cell' hck.out
        have SX := Sl.fr' hsx.out HT.out.fr (fun b hb => by omega)
        have C := endP (2 * (k : Int) + 1) Ak nk ck x HT.out (WalkArith.wf_i64 (by omega)) SX hnk hnck (fun b off s hn e => Sl.blk_lt hsx.out (by omega) e)
        rw [two_find1 hop, two_end1 hop] at C
        have HC8 := Lib.hid C
        clear C SX
        go_wp2_with fail
        refine HC8.out.mono ?_
        rintro e w10 ⟨rfl, H10⟩
        have hcT := H10.fr.cell' hck.out
        have SX := Sl.fr' hsx.out H10.fr (fun b hb => by omega)
        have C := endP (2 * (k : Int) + 1) Ak nk ck x H10 (WalkArith.wf_i64 (by omega)) SX hnk hnck (fun b off s hn e => Sl.blk_lt hsx.out (by omega) e)
        rw [two_find0 (by omega) (by omega), two_end0 hop] at C
        have HC8 := Lib.hid C
        clear C SX H10 HT
        go_wp2_with fail
        refine HC8.out.mono ?_
        rintro e w11 ⟨rfl, H11⟩
        have hcT := H11.fr.cell' hck.out
        clear HC8
        by_cases hn0 : nk = 0
        · obtain rfl : x = [] := List.eq_nil_of_length_eq_zero (by have := SlB.len hsx.out; omega)
          subst hn0
          have HE := Lib.hid H11
          have HL := Lib.hid (And.intro ST (And.intro hnc hn))
          clear H11 hsx
          by_cases hs : k < len1
          · obtain ⟨bs, os, u, rfl, hu, hcs⟩ := Sl.at1 S1 hs
            obtain ⟨z, hz, rfl⟩ : ∃ z, l1[k]? = some z ∧ u = .int .i64 z := by
              rw [List.getElem?_map, Option.map_eq_some_iff] at hu
              obtain ⟨z, h1, h2⟩ := hu
              exact ⟨z, h1, h2.symm⟩
            have hcs' := HE.out.fr.cell' hcs
            have HCS := Lib.hid hcs
            clear hu hz hcs
            by_cases hz : 1 ≤ z ∧ z ≤ 16
            · have C := goP 1 z HE.out
              rw [(two_goYes hz).1, (two_goYes hz).2] at C
              have HC9 := Lib.hid C
              clear C
              go_wp2_with fail
              refine HC9.out.mono ?_
              rintro e w12 ⟨rfl, H12⟩
              have hcs2 := H12.fr.cell' HCS.out
              have HH12 := Lib.hid H12
              clear HC9 H12
              go_wp2
              go_roundw
              case rel => exact ⟨k + 1, z, A, n, c, mm, t, tt, rfl, rfl, by go_num, by omega, by omega, HL.out.1, HL.out.2.1, HL.out.2.2, HH12⟩
              case measure => simp [intOf]; omega
            · have C := goP 1 z HE.out
              rw [(two_goNo hz).1, (two_goNo hz).2] at C
              have HC9 := Lib.hid C
              clear C
              go_wp2_with fail
              refine HC9.out.mono ?_
              rintro e w12 ⟨rfl, H12⟩
              have hcs2 := H12.fr.cell' HCS.out
              have HH12 := Lib.hid H12
              have hz' : z < 1 ∨ 16 < z := by omega
              clear HC9 H12 hz
              rcases hz' with hz | hz
              · go_wp2
                go_roundw
                case rel => exact ⟨k + 1, a, A, n, c, mm, t, tt, rfl, rfl, by go_num, by omega, by omega, HL.out.1, HL.out.2.1, HL.out.2.2, HH12⟩
                case measure => simp [intOf]; omega
              · have hz2 : decide (z ≤ 16) = false := by simp; omega
                go_wp2
                go_roundw
                case rel => exact ⟨k + 1, a, A, n, c, mm, t, tt, rfl, rfl, by go_num, by omega, by omega, HL.out.1, HL.out.2.1, HL.out.2.2, HH12⟩
                case measure => simp [intOf]; omega
          · go_wp2
            go_roundw
            case rel => exact ⟨k + 1, a, A, n, c, mm, t, tt, rfl, rfl, by go_num, by omega, by omega, HL.out.1, HL.out.2.1, HL.out.2.2, HE⟩
            case measure => simp [intOf]; omega
        · have hn1 : (0 : Int) < (nk : Int) := by omega
          have hx0 : x ≠ [] := by rintro rfl; have := SlB.len hsx.out; simp at this; omega
          rw [if_neg hx0] at H11
          have HE := Lib.hid H11
          have HL := Lib.hid (And.intro hsx.out (And.intro hnck hnk))
          clear H11 hx0
          by_cases hs : k < len1
          · obtain ⟨bs, os, u, rfl, hu, hcs⟩ := Sl.at1 S1 hs
            obtain ⟨z, hz, rfl⟩ : ∃ z, l1[k]? = some z ∧ u = .int .i64 z := by
              rw [List.getElem?_map, Option.map_eq_some_iff] at hu
              obtain ⟨z, h1, h2⟩ := hu
              exact ⟨z, h1, h2.symm⟩
            have hcs' := HE.out.fr.cell' hcs
            have HCS := Lib.hid hcs
            clear hu hz hcs
            by_cases hz : 1 ≤ z ∧ z ≤ 16
            · have C := goP 1 z HE.out
              rw [(two_goYes hz).1, (two_goYes hz).2] at C
              have HC9 := Lib.hid C
              clear C
              go_wp2_with fail
              refine HC9.out.mono ?_
              rintro e w12 ⟨rfl, H12⟩
              have hcs2 := H12.fr.cell' HCS.out
              have HH12 := Lib.hid H12
              clear HC9 H12
              go_wp2
              go_roundw
              case rel => exact ⟨k + 1, z, Ak, nk, ck, mm, x, tt, rfl, rfl, by go_num, by omega, by omega, HL.out.1, HL.out.2.1, HL.out.2.2, HH12⟩
              case measure => simp [intOf]; omega
            · have C := goP 1 z HE.out
              rw [(two_goNo hz).1, (two_goNo hz).2] at C
              have HC9 := Lib.hid C
              clear C
              go_wp2_with fail
              refine HC9.out.mono ?_
              rintro e w12 ⟨rfl, H12⟩
              have hcs2 := H12.fr.cell' HCS.out
              have HH12 := Lib.hid H12
              have hz' : z < 1 ∨ 16 < z := by omega
              clear HC9 H12 hz
              rcases hz' with hz | hz
              · go_wp2
                go_roundw
                case rel => exact ⟨k + 1, a, Ak, nk, ck, mm, x, tt, rfl, rfl, by go_num, by omega, by omega, HL.out.1, HL.out.2.1, HL.out.2.2, HH12⟩
                case measure => simp [intOf]; omega
              · have hz2 : decide (z ≤ 16) = false := by simp; omega
                go_wp2
                go_roundw
                case rel => exact ⟨k + 1, a, Ak, nk, ck, mm, x, tt, rfl, rfl, by go_num, by omega, by omega, HL.out.1, HL.out.2.1, HL.out.2.2, HH12⟩
                case measure => simp [intOf]; omega
          · go_wp2
            go_roundw
            case rel => exact ⟨k + 1, a, Ak, nk, ck, mm, x, tt, rfl, rfl, by go_num, by omega, by omega, HL.out.1, HL.out.2.1, HL.out.2.2, HE⟩
            case measure => simp [intOf]; omega
    · obtain rfl : k = len0 := by omega
      have T0 : SlB wr.drew A n t := Sl.drew (Sl.fr' ST HS.out.fr (fun b hb => by omega))
      have B4 : Below w.heap.size w wr.drew := (HB1.out.trans (HS.out.fr.toBelow.mono y1)).drew
      have H5 := HS.out.below ((Below.refl _ wr).drew)
      have CA := Lib.hid (show Calls Try.prog 13 #[.pointer (some ⟨p, 0, none⟩), .int .i64 1] wr.drew (fun e w' => e = .returned (.int .i64 a) ∧ wr.drew = w') from siteP 1 H5)
      have CB := Lib.hid (tokenP 1 H5)
      have kA := run_convert_SlB (P := Try.prog) T0 22 5 9 Try.underlying22 Try.underlying5 Try.underlying9 c
      have HT0 := Lib.hid T0
      have HB4 := Lib.hid B4
      clear T0 B4 H5 HS ST S0 S1
      go_wp2_with fail
      go_region_with (first
        | (go_at_call 13; refine CA.out.mono ?_; rintro e w' ⟨rfl, rfl⟩)
        | (go_at_call 11; refine CB.out.mono ?_; rintro e w12 ⟨A12, n12, c12, rfl, s12, h12, -, b12⟩; have k12 := run_convert_SlB (P := Try.prog) (show SlB w12 A12 n12 t from s12) 22 5 9 Try.underlying22 Try.underlying5 Try.underlying9 c12; have kB := run_convert_SlB (P := Try.prog) (Sl.below HT0.out b12) 22 5 9 Try.underlying22 Try.underlying5 Try.underlying9 c; have hB12 := HB4.out.trans (b12.mono HB4.out.size)))
      all_goals go_wp2
      all_goals go_ret
      all_goals exact ⟨retb (by simp), hB12⟩
end Go.Proofs.Ytbcgalejebeicaa
