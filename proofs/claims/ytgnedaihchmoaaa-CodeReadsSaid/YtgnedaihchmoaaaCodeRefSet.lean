/-
  firthref06.Set answers what code.Set does.
-/
import Derived.Test.YtgnedaihchmoaaaCodeRefRead
import Derived.Test.YtgnedaihchmoaaaCodeWhole
namespace Go.Proofs.Ytgnedaihchmoaaa
open Go.RowKit
set_option linter.unusedVariables false

theorem pTake_leG {ok : Nat → Nat → Bool} {L : List UInt8} {l : List Sp} {a : Nat} (h : pTake (gSpan ok) L 0 = some (l, a)) : l.length ≤ L.length := by
  obtain ⟨n, a1, h1, h2, h3, h4⟩ := pTake_some h
  omega
theorem qst_new (w : World) (A : Option Addr) (n c : Nat) (L : List UInt8) (hs : SlB w A n L) (hc : n ≤ c) (h9 : n ≤ 4000000000000) :
    QSt (w.alloc (.cells #[.slice A n c, .int .i64 0, .bool false] 109)) w.heap.size A n c L 0 false := by
  refine ⟨heap_alloc_new w _, Sl.alloc hs _, fun b off s hn e => ?_, Nat.zero_le _, hc, by omega⟩
  have := Sl.blk_lt hs (b := b) (off := off) (s := s) (by omega) e
  omega
set_option maxHeartbeats 1000000 in
set_option maxRecDepth 100000 in
theorem refSet_any (w : World) (A : Option Addr) (n c : Nat) (L : List UInt8) (hs : SlB w A n L) (hc : n ≤ c) (h9 : n ≤ 4000000000000) :
    Calls Try.prog 22 #[.slice A n c] w (SetAns w (setR okP L)) := by
  rw [setR_eq okP_small okQ_small]
  have HL := Lib.hid hs.len
  have bA : Below w.heap.size w (w.alloc (.cells #[.slice A n c, .int .i64 0, .bool false] 109)) := (Below.refl _ _).alloc (Nat.le_refl _) _
  have C1 := Lib.hid (qspans_any (qst_new w A n c L hs hc h9) h9)
  have HA := Lib.hid bA
  clear hs bA
  go_enter Try.func22, Try.ntmps22
  go_wp2_with fail
  refine C1.out.mono ?_
  rintro e w1 ⟨v, xs, a', bad', rfl, ⟨hv, -, -⟩, h1, f1, hq⟩
  obtain ⟨A1, c1, rfl, hc1, -⟩ := own_slice hv
  have hsz := f1.size
  have b1 : Below w.heap.size w w1 := HA.out.trans (f1.below (B := w.heap.size) (fun i hi => by have hi2 : i = w.heap.size := hi; omega) (by simp))
  have HB1 := Lib.hid b1
  have r1 := h1.c1
  have r2 := h1.c2
  have HV := Lib.hid hv
  have HQ := Lib.hid hq
  clear hv h1 f1 hq b1 C1
  cases bad' with
  | true =>
    have HN := Lib.hid (show setR okQ L = none from by
      rcases HQ.out.2 rfl with h | h
      · cases h
      · exact setR_no1 h)
    go_wp2
    go_ret2
    exact SetAns.no HN.out HB1.out
  | false =>
    have HT := Lib.hid (HQ.out.1 rfl).2
    by_cases ha : a' = n
    · have q : ((a' : Int) != (n : Int)) = false := by rw [ha]; simp
      have q2 : ((a' : Int) == (n : Int)) = true := by rw [ha]; simp
      have hxl := pTake_leG HT.out
      have hLn := HL.out
      have c2 := refRightS_any A1 xs.length c1 xs w1 (Sl.of_own HV.out) (by omega)
      clear hLn hxl
      cases hr : rightS xs
      · rw [hr] at c2
        have C2 := Lib.hid c2
        have HN := Lib.hid (setR_no2 HT.out (fun h => by rw [hr] at h; cases h.2))
        clear c2 hr ha
        go_wp2_with fail
        refine C2.out.mono ?_
        rintro e w2 ⟨rfl, b2⟩
        have HB2 := Lib.hid (HB1.out.trans (b2.mono HB1.out.size))
        clear b2 C2
        go_wp2
        go_ret2
        exact SetAns.no HN.out HB2.out
      · rw [hr] at c2
        have C2 := Lib.hid c2
        have HN := Lib.hid (setR_yes HT.out ⟨ha.trans HL.out.symm, hr⟩)
        clear c2 hr ha
        go_wp2_with fail
        refine C2.out.mono ?_
        rintro e w2 ⟨rfl, b2⟩
        have HB2 := Lib.hid (HB1.out.trans (b2.mono HB1.out.size))
        have HE := Lib.hid (SetAns.yes HN.out (own_lower (own_below HV.out b2) (by simp)) hc1 HB2.out)
        clear b2 C2
        go_wp2
        go_ret2
        exact HE.out
    · have q : ((a' : Int) != (n : Int)) = true := by rw [bne_iff_ne]; omega
      have q2 : ((a' : Int) == (n : Int)) = false := by rw [beq_eq_false_iff_ne]; omega
      have HN := Lib.hid (setR_no2 HT.out (fun h => ha (h.1.trans HL.out)))
      clear ha
      go_wp2
      go_ret2
      exact SetAns.no HN.out HB1.out
end Go.Proofs.Ytgnedaihchmoaaa
