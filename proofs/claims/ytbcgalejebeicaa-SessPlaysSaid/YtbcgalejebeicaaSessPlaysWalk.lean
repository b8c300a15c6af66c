/-
  The walk of firthlaw21.SessPlays.
-/
import Derived.Test.YtbcgalejebeicaaSessPlaysKinds
import Derived.Test.YtbcgalejebeicaaSameInts
import Derived.Test.YtbcgalejebeicaaShape
import Derived.OpenShut
import Derived.Deep.RegionHeld3
import Derived.Deep.LoopGhost
import Derived.Deep.CutBlock
import Derived.Deep.DeepCutAuto
import Derived.Deep.QuietTactic
import Derived.BigQuiet
namespace Go.Proofs.Ytbcgalejebeicaa
open Go.RowKit
set_option linter.unusedVariables false

set_option maxHeartbeats 4000000 in
set_option maxRecDepth 100000 in
theorem sessPlays_bad (sites : Int) (s1 : Value) (w : World) (hsites : ¬ (1 ≤ sites ∧ sites ≤ 16)) :
    Calls Try.prog 5 #[.int .i64 sites, s1] w fun e w' => e = .returned (.bool true) ∧ Below w.heap.size w w' := by
  have C := Lib.hid (newS_no sites w hsites)
  go_enter Try.func5, Try.ntmps5
  go_wp2_with fail
  refine C.out.mono ?_
  rintro e w1 ⟨rfl, rfl⟩
  go_wp2_with fail
  refine (awake_any _).mono ?_
  rintro e w2 ⟨rfl, B2⟩
  have HB2 := Lib.hid B2
  clear B2
  by_cases h1 : sites < 1
  · clear hsites C
    go_wp2_with fail
    refine (awake_any _).mono ?_
    rintro e w3 ⟨rfl, B3⟩
    have HB3 := Lib.hid B3
    clear B3
    go_wp2
    go_ret
    exact ⟨rfl, HB2.out.trans (HB3.out.mono HB2.out.size)⟩
  · have h2 : 16 < sites := by omega
    clear hsites C
    go_wp2_with fail
    refine (awake_any _).mono ?_
    rintro e w3 ⟨rfl, B3⟩
    have HB3 := Lib.hid B3
    clear B3
    go_wp2
    go_ret
    exact ⟨rfl, HB2.out.trans (HB3.out.mono HB2.out.size)⟩

set_option maxHeartbeats 20000000 in
set_option maxRecDepth 100000 in
theorem sessPlays_walk (sites : Int) (a1 : Option Addr) (len1 cap1 : Nat) (ls : List opSh.T) (w : World) (w0 : (Lit.int .i64 sites).wf = true) (r1 : Rd w (.sl 56 opSh) [.slice a1 len1 cap1] ls) :
    Calls Try.prog 5 #[.int .i64 sites, .slice a1 len1 cap1] w fun e w' => e = .returned (.bool true) ∧ Below w.heap.size w w' := by
  obtain ⟨-, z1, z2, -, -⟩ := r1.elem
  have hlen : len1 ≤ 2600000000000 := by omega
  have R1 := Lib.hid r1
  clear r1 z1 z2 w0
  by_cases hsites : 1 ≤ sites ∧ sites ≤ 16
  · obtain ⟨t1, t2⟩ := hsites
    have q1 : decide (sites < 1) = false := by simp; omega
    have q2 : decide (16 < sites) = false := by simp; omega
    go_enter Try.func5, Try.ntmps5
    go_wp2_with fail
    refine (newP sites w t1 t2).mono ?_
    rintro e w1 ⟨p, rfl, H1⟩
    have HH1 := Lib.hid H1
    clear H1
    go_wp2_with fail
    refine (awake_any w1).mono ?_
    rintro e w2 ⟨rfl, B2⟩
    have HB := Lib.hid (bothNew (HH1.out.below B2))
    have hz : w.heap.size ≤ w2.heap.size := by have := HH1.out.fr.size; have := B2.size; omega
    clear B2 HH1 q1 q2
    go_wp2
    go_loopg [8] len1 (fun g i wr => ∃ (k m : Nat) (l : List Ses), i = .int .i64 (k : Int) ∧ g = len1 - k ∧ k ≤ len1 ∧ m ≤ k ∧ l.length ≤ k ∧ Hid (Both (fun b => b < w.heap.size) w wr p w2.heap.size sites l l m))
    case atStart => exact ⟨0, 0, [], rfl, rfl, Nat.zero_le _, Nat.zero_le _, Nat.zero_le _, HB⟩
    case round =>
      obtain ⟨k, m, l, rfl, rfl, hk, hm, hl, HL⟩ := hrel
      clear HB
      by_cases hlt : k < len1
      · obtain ⟨bs, os, kd, nn, st, op, At, nt, ct, tok, rfl, x0, x1, x2, x3, x4, hwf, hst, hnc, hnt⟩ := op_at R1.out hlt
        have y0 := HL.out.fr.cell' x0
        have y1 := HL.out.fr.cell' x1
        have y2 := HL.out.fr.cell' x2
        have y3 := HL.out.fr.cell' x3
        have y4 := HL.out.fr.cell' x4
        have ST := Lib.hid (And.intro hst (Sl.fr' hst HL.out.fr (fun b hb => by omega)))
        clear x0 x1 x2 x3 x4 hst
        go_upto_block 2 with fail
        have hz2 := HL.out.fr.size
        have HK := Lib.hid (HL.out.over (K2 := fun b => b < w.heap.size ∨ b = wr.heap.size) (w1 := wr.alloc (.cells #[.int .i64 kd, .int .i64 nn, .int .i64 st, .int .i64 op, .slice At nt ct] 47)) ((Below.refl _ _).alloc (Nat.le_refl _) _) (fun b hb => hb.imp id (fun e => by simp; omega)))
        have FB := Lib.hid (HL.out.fr.trans (Fr.alloc (fun _ => False) wr (.cells #[.int .i64 kd, .int .i64 nn, .int .i64 st, .int .i64 op, .slice At nt ct] 47)) (fun _ h => h.elim))
        have hbk : (wr.alloc (.cells #[.int .i64 kd, .int .i64 nn, .int .i64 st, .int .i64 op, .slice At nt ct] 47)).heap[wr.heap.size]? = some (.cells #[.int .i64 kd, .int .i64 nn, .int .i64 st, .int .i64 op, .slice At nt ct] 47 (0, 0)) := heap_alloc_new _ _
        have HC := Lib.hid (fun (j : Nat) (v : Value) (hj : (#[.int .i64 kd, .int .i64 nn, .int .i64 st, .int .i64 op, .slice At nt ct] : Array Value)[j]? = some v) (w' : World) (F : Fr (fun b => ¬ (b < w.heap.size ∨ b = wr.heap.size)) (wr.alloc (.cells #[.int .i64 kd, .int .i64 nn, .int .i64 st, .int .i64 op, .slice At nt ct] 47)) w') => F.cellK (a := ⟨wr.heap.size, j, none⟩) (.inr rfl) (blk_cell hbk hj))
        have HT := Lib.hid (show SlB (wr.alloc (.cells #[.int .i64 kd, .int .i64 nn, .int .i64 st, .int .i64 op, .slice At nt ct] 47)) At nt tok from Sl.alloc ST.out.2 _)
        have HTB := Lib.hid (fun (b off : Nat) (s : Option Nat) (hn : 0 < nt) (e : At = some ⟨b, off, s⟩) => show (b < w.heap.size ∨ b = wr.heap.size) from .inl (Sl.blk_lt ST.out.1 (by omega) e))
        have hzb : w.heap.size ≤ (wr.alloc (.cells #[.int .i64 kd, .int .i64 nn, .int .i64 st, .int .i64 op, .slice At nt ct] 47)).heap.size ∧ wr.heap.size < (wr.alloc (.cells #[.int .i64 kd, .int .i64 nn, .int .i64 st, .int .i64 op, .slice At nt ct] 47)).heap.size := by simp; omega
        generalize hwb : wr.alloc (.cells #[.int .i64 kd, .int .i64 nn, .int .i64 st, .int .i64 op, .slice At nt ct] 47) = wb at *
        generalize hgb : wr.heap.size = gb at *
        clear HL ST hbk hwb y0 y1 y2 y3 y4 hz2
        have b0 := HC.out 0 _ rfl wb (Fr.refl _ _)
        have b1 := HC.out 1 _ rfl wb (Fr.refl _ _)
        have b2 := HC.out 2 _ rfl wb (Fr.refl _ _)
        have b3 := HC.out 3 _ rfl wb (Fr.refl _ _)
        have b4 := HC.out 4 _ rfl wb (Fr.refl _ _)
        refine plays_kinds (by omega) (by omega) HK hzb HC HT HTB hwf hnc hnt _ _ _ _ _ _ _ _ _ _ _ _ _ _ _ _ _ _ _ _ _ _ _ _ _ _ _ _ _ _ _ _ _ _ _ _ _ _ _ _ _ _ _ _ _ _ _ _ _ _ _ _ _ _ _ _ _ _ _ _ _ _ _ _ _ _ _ _ _ _ _ _ _ _ _ _ _ _ _ _ _ _ _ _ _ _ _ _ _ _ _ _ _ _ _ _ _ _ _ _ _ _ _ _ _ _ _ _ _ _ _ _ _ _ _ _ _ _ _ _ _ _ _ _ _ _ _ _ _ _ _ _ _ _ _ _ _ _ _ _ _ _ _ _ _ _ _ _ _ _ _ _ _ _ _ _ _ _ _ _ _ _ _ _ _ _ _ _ _ _ _ _ _ _ _ _ _ _ _ _ _ _ _ _ _ _ _ _ _ _ _ _ _ _ _ _ _ _ _ _ _ _ _ _ _ _ _ _ _ _ _ _ _ _ _ _ _ _ _ _ _ _ _ _ _ _ _ _ _ _ _ _ _ _ _ _ _ _ _ _ _ _ _ _ ?_
        refine Lib.hid ?_
        intro wc hcut
        intros
        obtain ⟨l', m', hl', hm', HJ0⟩ := hcut
        have HJ := Lib.hid HJ0
        clear HJ0
        clear HK HC HT HTB b0 b1 b2 b3 b4 hwf hnc hnt
        obtain ⟨Ar, cr, d1, hmr⟩ := HJ.out.rlen
        have CL := Lib.hid (fun n => Calls.quiet_same' (n := n) (lenB (HJ.out.below (below_drewN (Below.refl _ wc) n))))
        have CS := Lib.hid (fun n => Calls.quiet_same' (n := n) (show Calls Try.prog 13 #[.pointer (some ⟨p, 0, none⟩), .int .i64 0] (wc.drewN n) (fun e w' => e = .returned (.int .i64 0) ∧ wc.drewN n = w') from by have := siteB 0 (HJ.out.below (below_drewN (Below.refl _ wc) n)); unfold siteS at this; rw [getS_zero] at this; exact this))
        have CT := Lib.hid (fun n => Calls.quiet_same' (n := n) (tokenB_none ((l'.length : Int) + 1) (HJ.out.below (below_drewN (Below.refl _ wc) n)) (getS_past l')))
        unfold maxLen at hmr
        go_wp2_with fail
        go_quiet (first
          | (go_at_call 21; exact CL.out _)
          | (go_at_call 13; exact CS.out _)
          | (go_at_call 11; exact CT.out _))
        have HJ2 := Lib.hid (HJ.out.below (below_drewN (Below.refl _ wc) nq))
        clear CL CS CT HJ d1
        go_wp2
        go_loopw [24] (fun i uu => ∃ k2 : Nat, i = .int .i64 (k2 : Int) ∧ k2 ≤ l'.length ∧ Hid (Both (fun b => b < w.heap.size ∨ b = gb) wb uu p w2.heap.size sites l' l' m')) (fun i _ => l'.length - (intOf i).toNat)
        case atStart => exact ⟨0, rfl, Nat.zero_le _, HJ2⟩
        case round =>
          obtain ⟨k2, rfl, hk2, HI⟩ := hrel
          clear HJ2
          by_cases hlt2 : k2 < l'.length
          · obtain ⟨x, hx⟩ : ∃ x, l'[k2]? = some x := ⟨_, List.getElem?_eq_getElem hlt2⟩
            obtain ⟨g3, o3, c3, A3, n3, cc3, e1, e2, e3, s3, hc3⟩ := HI.out.rat hx
            have HD := HI.out.below ((Below.refl _ wr).drew)
            obtain ⟨Ar2, cr2, f1, _⟩ := HI.out.rlen
            have E1 : siteS l' ((k2 : Int) + 1) = x.site := by unfold siteS; rw [getS_get hx]
            have E2 : tokS l' ((k2 : Int) + 1) = x.tok := by unfold tokS; rw [getS_get hx]
            have C1 := siteB ((k2 : Int) + 1) HD
            have C2 := tokenB ((k2 : Int) + 1) HD
            rw [E1] at C1
            rw [E2] at C2
            have HC1 := Lib.hid C1
            have HC2 := Lib.hid C2
            have HDD := Lib.hid HD
            have s3d : SlB wr.drew A3 n3 x.tok := s3
            have qB := run_convert_SlB (P := Try.prog) s3d 22 5 9 Try.underlying22 Try.underlying5 Try.underlying9 cc3
            have HS3 := Lib.hid s3d
            have hw1 : IntKind.i64.wrap ((k2 : Int) + 1) = (k2 : Int) + 1 := IntWalk.i64_in _ (by omega)
            have i0 : (0 : Int) ≤ (k2 : Int) := by omega
            have i1 : (k2 : Int) < (l'.length : Int) := by omega
            clear C1 C2 E1 E2 hx HD s3 s3d
            go_upto_region 38 with fail
            go_cut [246] (fun s wx => s = .bool false ∧ Hid (Both (fun b => b < w.heap.size ∨ b = gb) wb wx p w2.heap.size sites l' l' m'))
            case first =>
              go_region_held (fun w' => w'.cell? ⟨w2.heap.size, 1, none⟩ = some (.slice (some ⟨g3, o3, none⟩) l'.length c3) ∧ w'.cell? ⟨g3, o3 + k2 * 3, none⟩ = some (.int .i64 x.site) ∧ w'.cell? ⟨g3, o3 + k2 * 3 + 1, none⟩ = some (.slice A3 n3 cc3) ∧ (convert 22 9 (.slice A3 n3 cc3)).run Try.prog w' = .ok (.string ⟨x.tok.toArray⟩) w')
                (first | exact ⟨e1, e2, e3, qB⟩ | exact hS1 | assumption)
                (first
                  | (go_at_call 13; refine HC1.out.mono ?_; rintro e w' ⟨rfl, rfl⟩)
                  | (go_at_call 11; refine HC2.out.mono ?_; rintro e w12 ⟨A12, n12, c12, rfl, s12, h12, -, b12⟩; have qA := run_convert_SlB (P := Try.prog) (show SlB w12 A12 n12 x.tok from s12) 22 5 9 Try.underlying22 Try.underlying5 Try.underlying9 c12; have qC := run_convert_SlB (P := Try.prog) (Sl.below HS3.out b12) 22 5 9 Try.underlying22 Try.underlying5 Try.underlying9 cc3; have hS1 : w12.cell? ⟨w2.heap.size, 1, none⟩ = some (.slice (some ⟨g3, o3, none⟩) l'.length c3) ∧ w12.cell? ⟨g3, o3 + k2 * 3, none⟩ = some (.int .i64 x.site) ∧ w12.cell? ⟨g3, o3 + k2 * 3 + 1, none⟩ = some (.slice A3 n3 cc3) ∧ (convert 22 9 (.slice A3 n3 cc3)).run Try.prog w12 = .ok (.string ⟨x.tok.toArray⟩) w12 := ⟨(b12.cell (World.block_lt_of_cell? wr.drew _ e1)).trans e1, (b12.cell (World.block_lt_of_cell? wr.drew _ e2)).trans e2, (b12.cell (World.block_lt_of_cell? wr.drew _ e3)).trans e3, qC⟩; have HH12 := Lib.hid (HDD.out.below b12); clear s12 b12))
              all_goals go_wp2_with fail
              all_goals go_meet
              all_goals (case rel => exact ⟨by simp, HH12⟩)
            case rest =>
              obtain ⟨rfl, HH12⟩ := hcut
              go_wp2
              go_roundw
              case rel => exact ⟨k2 + 1, by go_num, by omega, HH12⟩
              case measure => simp [intOf]; omega
          · obtain rfl : k2 = l'.length := by omega
            obtain ⟨Ar2, cr2, f1, _⟩ := HI.out.rlen
            have HO := Lib.hid (HI.out.back FB.out (fun b hb => .inl hb) (fun b hb => hb))
            clear HI FB
            go_wp2
            go_roundg (len1 - (k + 1))
            case measure => omega
            case rel => exact ⟨k + 1, m', l', by go_num, rfl, by omega, by omega, by omega, HO⟩
      · obtain rfl : k = len1 := by omega
        have hE := Lib.hid HL.out.fr
        clear HL
        go_wp2
        go_ret
        exact ⟨rfl, hE.out.below (fun i hi => by omega) (Nat.le_refl _)⟩
  · exact sessPlays_bad sites _ w hsites
end Go.Proofs.Ytbcgalejebeicaa
