/-
  The document's sessions: Begin, Open.
-/
import Derived.Test.YtbcgalejebeicaaSessRefDo
import Derived.Deep.QuietTactic
import Derived.BigQuiet
namespace Go.Proofs.Ytbcgalejebeicaa
open Go.RowKit
set_option linter.unusedVariables false

theorem Try.infoRefSes : (Try.prog.info? 58).map (fun i => (i.zero, i.size, i.bytes)) = some (some (.agg #[.int .i64 0, .slice none 0 0, .int .i64 0]), 3, 40) := by kernel_rfl
section
variable {w w' : World} {fp fp' : Nat → Prop} {p : Nat} {sites : Int} {l : List Ses}
def RefBegin (w : World) (fp : Nat → Prop) (p : Nat) (sites : Int) (l : List Ses) (n op : Int) (e : Ending) (w' : World) : Prop :=
  ∃ A k c, e = .returned (.tuple #[.int .i64 (beginA l n op).1, .slice A k c, .int .i64 (beginA l n op).2.2]) ∧ SlB w' A k (beginA l n op).2.1 ∧ k ≤ c ∧ RefG w' fp p sites (beginL l n op) ∧ Fr fp w w'
theorem RefBegin.no (h : RefG w fp p sites l) {n op x : Int} (hA : beginA l n op = (0, [], x)) (hL : beginL l n op = l) : RefBegin w fp p sites l n op (.returned (.tuple #[.int .i64 0, .slice none 0 0, .int .i64 x])) w := by
  unfold RefBegin
  rw [hA, hL]
  exact ⟨none, 0, 0, rfl, Sl.nil _ _ _, Nat.le_refl _, h, Fr.refl _ _⟩
set_option maxHeartbeats 2000000 in
theorem refBegin_any (n op : Int) (h : RefG w fp p sites l) :
    Calls Try.prog 15 #[.pointer (some ⟨p, 0, none⟩), .int .i64 n, .int .i64 op] w (RefBegin w fp p sites l n op) := by
  obtain ⟨A, c, c1, hm⟩ := h.len_
  unfold maxLen at hm
  rcases getS_cases l n with ⟨hs, hn⟩ | ⟨k, x, rfl, hk, hkl, hx, hs⟩
  · have H := Lib.hid (RefBegin.no (n := n) (op := op) (x := 210) h (by unfold beginA; rw [hs]) (by unfold beginL; rw [hs]))
    clear h hs
    by_cases h1 : n < 1
    · clear hn
      go_enter Try.func15, Try.ntmps15
      go_wp2
      go_ret3
      exact H.out
    · have h2 : (l.length : Int) < n := by omega
      clear hn
      go_enter Try.func15, Try.ntmps15
      go_wp2
      go_ret3
      exact H.out
  · obtain ⟨g, off, c', A', nn, cc, ho, q1, q2, q3, q4, qf, qt, qnc, qtl, -⟩ := h.at_ hx
    have hk2 : ¬ ((k : Int) < 1) := by omega
    have hk3 : decide (l.length < k) = false := by simp; omega
    by_cases h1 : op < 1
    · have H := Lib.hid (RefBegin.no (n := (k : Int)) (op := op) (x := 1) h (by unfold beginA; rw [hs]; simp only []; rw [if_pos (.inl h1)]) (by unfold beginL; rw [hs]; simp only []; rw [if_pos (.inl h1)]))
      clear h hs hx q2 q3 q4 qf qt c1
      go_enter Try.func15, Try.ntmps15
      go_wp2
      go_ret3
      exact H.out
    · have C0 := refFind_any op h
      rcases hf : findS l op with _ | q
      · by_cases h0 : x.op = 0
        · have hAn : beginA l (k : Int) op = (x.site, x.tok, 0) := by
            unfold beginA; rw [hs]; simp only []; rw [if_neg (by omega), if_neg (by omega)]
          have hLn : beginL l (k : Int) op = l.set (k - 1) { x with op := op } := by
            unfold beginL; rw [hs]; simp only []; rw [if_neg (by omega), if_neg (by omega), Int.toNat_natCast]
          have R := h.put (r := 2) (u := .int .i64 op) (y := { x with op := op }) (A := A') (n := nn) (cc := cc) hx ho q1 (by omega) (fun A0 n0 c0 h0 => by
            rw [q3] at h0
            injection h0 with h0
            injection h0 with e1 e2 e3
            subst e1 e2 e3
            exact ⟨rfl, .inl ⟨rfl, rfl, rfl, rfl⟩⟩) (h.asks.begin hx (by omega) hf)
          have hx' : (l.set (k - 1) { x with op := op })[k - 1]? = some { x with op := op } := List.getElem?_set_self (by omega)
          have T2 : SlB (w.setCell ⟨g, off + (k - 1) * 3 + 2, none⟩ (.int .i64 op)) A' nn x.tok := by
            refine Sl.keepB qt.1 fun b o hn e => ?_
            obtain ⟨_, cs, hcs⟩ := qt.2 b o none hn e
            refine Below.heap_setCell _ _ _ _ ?_
            obtain ⟨lv, rows, h1, h2, _⟩ := h.ex
            have hl := blk_cell (j := 1) h1 rfl
            rw [q1] at hl
            injection hl with hl
            simp only [List.getElem_toArray, List.getElem_cons_succ, List.getElem_cons_zero] at hl
            subst hl
            obtain ⟨cs', hcs'⟩ := own_tag h2 rfl
            exact tag_ne hcs hcs' (by decide)
          have HR := Lib.hid R
          have HT := Lib.hid T2
          have HE := Lib.hid (And.intro hAn hLn)
          rw [h0] at q4
          rw [hf] at C0
          have C := Lib.hid C0
          have qf2 := qf (off + (k - 1) * 3 + 2)
          obtain ⟨g2, off2, c2', A2, n2, cc2, ho2, r1, r2, r3, r4, -, rt, rnc, -, -⟩ := R.1.at_ hx'
          simp only [List.length_set] at r1
          have HT2 := Lib.hid (And.intro rt.1 rnc)
          clear h hs hx hx' q3 qf qt R T2 hAn hLn hf C0 h0 HT c1 rt
          go_enter Try.func15, Try.ntmps15
          go_wp2_with fail
          refine C.out.mono ?_
          rintro e w' ⟨rfl, rfl⟩
          go_wp2
          go_quiet (fail)
          go_wp2
          go_ret3
          unfold RefBegin
          rw [HE.out.1, HE.out.2]
          exact ⟨A2, n2, cc2, rfl, HT2.out.1, HT2.out.2, HR.out.1.below (below_drewN (Below.refl _ _) _), HR.out.2.drewN _⟩
        · have h0' : 0 < x.op := by have := h.asks.1 x (List.mem_of_getElem? hx); omega
          have H := Lib.hid (RefBegin.no (n := (k : Int)) (op := op) (x := 202) h (by unfold beginA; rw [hs]; simp only []; rw [if_neg (by omega), if_pos h0]) (by unfold beginL; rw [hs]; simp only []; rw [if_neg (by omega), if_pos h0]))
          rw [hf] at C0
          have C := Lib.hid C0
          clear h hs hx q2 q3 qf qt c1 C0 hf h0
          go_enter Try.func15, Try.ntmps15
          go_wp2_with fail
          refine C.out.mono ?_
          rintro e w' ⟨rfl, rfl⟩
          go_wp2
          go_ret3
          exact H.out
      · have H := Lib.hid (RefBegin.no (n := (k : Int)) (op := op) (x := 1) h (by unfold beginA; rw [hs]; simp only []; rw [if_pos (.inr (by omega))]) (by unfold beginL; rw [hs]; simp only []; rw [if_pos (.inr (by omega))]))
        rw [hf] at C0
        have C := Lib.hid C0
        have hq : (0 : Int) < (q : Int) + 1 := by omega
        clear h hs hx q2 q3 q4 qf qt c1 C0 hf
        go_enter Try.func15, Try.ntmps15
        go_wp2_with fail
        refine C.out.mono ?_
        rintro e w' ⟨rfl, rfl⟩
        go_wp2
        go_ret3
        exact H.out
end
end Go.Proofs.Ytbcgalejebeicaa
