/-
  The document's sessions: find, Go, Begin.
-/
import Derived.Test.YtbcgalejebeicaaSessRef
import Derived.RegionTactic
namespace Go.Proofs.Ytbcgalejebeicaa
open Go.RowKit
set_option linter.unusedVariables false

section
variable {w w' : World} {fp fp' : Nat → Prop} {p : Nat} {sites : Int} {l : List Ses}
/-- What a method of the document's that answers v leaves. -/
def RefTo (w : World) (fp : Nat → Prop) (p : Nat) (sites : Int) (l : List Ses) (v : Value) (e : Ending) (w' : World) : Prop :=
  e = .returned v ∧ ∃ fp', RefG w' fp' p sites l ∧ Fr fp w w' ∧ Grow w fp fp'
theorem RefG.same (h : RefG w fp p sites l) {v : Value} : RefTo w fp p sites l v (.returned v) w := ⟨rfl, fp, h, Fr.refl _ _, Grow.refl _ _⟩

set_option maxHeartbeats 1000000 in
theorem refFind_any (op : Int) (h : RefG w fp p sites l) :
    Calls Try.prog 25 #[.pointer (some ⟨p, 0, none⟩), .int .i64 op] w fun e w' => e = .returned (.int .i64 (findS l op : Int)) ∧ w = w' := by
  obtain ⟨A, c, c1, hm⟩ := h.len_
  unfold maxLen at hm
  have H := Lib.hid h
  clear h
  go_enter Try.func25, Try.ntmps25
  go_wp2
  go_loop [5] (fun i => ∃ k : Nat, i = .int .i64 (k : Int) ∧ k ≤ l.length ∧ Hid (∀ j x, j < k → l[j]? = some x → 0 < op → x.op ≠ op)) (fun i => l.length - (intOf i).toNat)
  case atStart => exact ⟨0, rfl, Nat.zero_le _, fun j x hj => by omega⟩
  case round =>
    obtain ⟨k, rfl, hk, HK⟩ := hrel
    by_cases hlt : k < l.length
    · obtain ⟨x, hx⟩ : ∃ x, l[k]? = some x := ⟨_, List.getElem?_eq_getElem hlt⟩
      obtain ⟨g, off, c', A', n, cc, ho, q1, q2, q3, q4, -, -, -, -, -⟩ := H.out.at_ hx
      have hHX := Lib.hid hx
      clear hx q2 q3 c1
      by_cases h0 : 0 < op
      · by_cases he : x.op = op
        · have hb : (x.op == op) = true := by simpa using he
          have hF := Lib.hid (findS_eq H.out.asks hHX.out he h0)
          clear he
          go_wp2
          go_ret
          exact ⟨by rw [hF.out]; rfl, rfl⟩
        · have hb : (x.op == op) = false := by simpa using he
          have hN : Hid (∀ j x, j < k + 1 → l[j]? = some x → 0 < op → x.op ≠ op) := by
            intro j y hj hy hp
            by_cases hjk : j = k
            · subst hjk
              rw [hHX.out] at hy
              injection hy with hy
              subst hy
              exact he
            · exact HK.out j y (by omega) hy hp
          clear he
          go_wp2
          go_round
          case rel => exact ⟨k + 1, by go_num, by omega, hN⟩
          case measure => simp [intOf]; omega
      · have hb : decide (0 < op) = false := by simpa using h0
        have hN : Hid (∀ j x, j < k + 1 → l[j]? = some x → 0 < op → x.op ≠ op) := fun j y hj hy hp => absurd hp h0
        go_wp2
        go_round
        case rel => exact ⟨k + 1, by go_num, by omega, hN⟩
        case measure => simp [intOf]; omega
    · obtain rfl : k = l.length := by omega
      have hF := Lib.hid (findS_no (l := l) (op := op) (fun x hx hp => by
        obtain ⟨j, hj⟩ := List.getElem?_of_mem hx
        exact HK.out j x (List.getElem?_eq_some_iff.1 hj).1 hj hp))
      go_wp2
      go_ret
      exact ⟨by rw [hF.out]; rfl, rfl⟩

set_option maxHeartbeats 1000000 in
theorem refGo_any (n s : Int) (h : RefG w fp p sites l) :
    Calls Try.prog 17 #[.pointer (some ⟨p, 0, none⟩), .int .i64 n, .int .i64 s] w (RefTo w fp p sites (goL sites l n s) (.int .i64 (goA sites l n s))) := by
  obtain ⟨A, c, c1, hm⟩ := h.len_
  have c0 := h.sites_
  unfold maxLen at hm
  rcases getS_cases l n with ⟨hs, hn⟩ | ⟨k, x, rfl, hk, hkl, hx, hs⟩
  · have E : goA sites l n s = 210 ∧ goL sites l n s = l := by unfold goA goL; rw [hs]; exact ⟨rfl, rfl⟩
    rw [E.1, E.2]
    have H := Lib.hid h
    clear h hs E
    by_cases h1 : n < 1
    · clear hn
      go_enter Try.func17, Try.ntmps17
      go_wp2
      go_ret
      exact H.out.same
    · have h2 : (l.length : Int) < n := by omega
      clear hn
      go_enter Try.func17, Try.ntmps17
      go_wp2
      go_ret
      exact H.out.same
  · obtain ⟨g, off, c', A', nn, cc, ho, q1, q2, q3, q4, qf, -, -, -, -⟩ := h.at_ hx
    have hk2 : ¬ ((k : Int) < 1) := by omega
    have hk3 : decide (l.length < k) = false := by simp; omega
    by_cases hsite : 1 ≤ s ∧ s ≤ sites
    · by_cases hop : x.op = 0
      · have E : goA sites l (k : Int) s = 0 ∧ goL sites l (k : Int) s = l.set (k - 1) { x with site := s } := by
          unfold goA goL
          rw [hs]
          simp only [Int.toNat_natCast]
          rw [if_neg (by omega), if_neg (by omega), if_neg (by omega), if_neg (by omega)]
          exact ⟨rfl, rfl⟩
        rw [E.1, E.2]
        rw [hop] at q4
        obtain ⟨R, F⟩ := h.put (r := 0) (u := .int .i64 s) (y := { x with site := s }) (A := A') (n := nn) (cc := cc) hx ho q1 (by omega) (fun A0 n0 c0 h0 => by
          rw [q3] at h0
          injection h0 with h0
          injection h0 with e1 e2 e3
          subst e1 e2 e3
          exact ⟨rfl, .inl ⟨rfl, rfl, rfl, rfl⟩⟩) (h.asks.quiet hx (.inr rfl))
        rw [Nat.add_zero] at R F
        have HR := Lib.hid R
        have HF := Lib.hid F
        have qf0 := qf (off + (k - 1) * 3)
        obtain ⟨s1, s2⟩ := hsite
        have hs2 : decide (sites < s) = false := by simp; omega
        clear h hs E hx hop qf R F q3 c1
        go_enter Try.func17, Try.ntmps17
        go_wp2
        go_ret
        exact ⟨rfl, fp, HR.out, HF.out, Grow.refl _ _⟩
      · have E : goA sites l (k : Int) s = 202 ∧ goL sites l (k : Int) s = l := by
          unfold goA goL
          rw [hs]
          simp only []
          rw [if_neg (by omega), if_pos hop, if_neg (by omega), if_pos hop]
          exact ⟨rfl, rfl⟩
        rw [E.1, E.2]
        have hop' : 0 < x.op := by have := h.asks.1 x (List.mem_of_getElem? hx); omega
        have H := Lib.hid h
        obtain ⟨s1, s2⟩ := hsite
        have hs2 : decide (sites < s) = false := by simp; omega
        clear h hs E hx qf q3 c1 hop
        go_enter Try.func17, Try.ntmps17
        go_wp2
        go_ret
        exact H.out.same
    · have E : goA sites l (k : Int) s = 1 ∧ goL sites l (k : Int) s = l := by
        unfold goA goL
        rw [hs]
        simp only []
        rw [if_pos (by omega), if_pos (by omega)]
        exact ⟨rfl, rfl⟩
      rw [E.1, E.2]
      have H := Lib.hid h
      clear h hs E hx qf q3 q4 q2 c1
      by_cases s1 : s < 1
      · clear hsite
        go_enter Try.func17, Try.ntmps17
        go_wp2
        go_ret
        exact H.out.same
      · have s2 : decide (sites < s) = true := by simp; omega
        clear hsite
        go_enter Try.func17, Try.ntmps17
        go_wp2
        go_ret
        exact H.out.same
end
end Go.Proofs.Ytbcgalejebeicaa
