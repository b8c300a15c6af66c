/-
  firth/code.msg. (Printed by tools/readmsg.py.)
-/
import Derived.Test.YtgnedaihchmoaaaMF
namespace Go.Proofs.Ytgnedaihchmoaaa
open Go.RowKit
set_option linter.unusedVariables false

theorem take_len {α : Type} {p : List UInt8 → Nat → Option (α × Nat)} {L : List UInt8} {a b : Nat} {xs : List α} (h : pTake p L a = some (xs, b)) : xs.length ≤ L.length := by
  obtain ⟨n, a1, h1, h2, h3, h4⟩ := pTake_some h
  omega
theorem hash_range {L : List UInt8} {a b : Nat} {xs : List Int} (h : pTake gHash L a = some (xs, b)) : ∀ x ∈ xs, 0 ≤ x ∧ x < 18446744073709551616 := by
  obtain ⟨k, c, _, _, hr, _⟩ := pTake_some h
  exact pRep_all (P := fun x => 0 ≤ x ∧ x < 18446744073709551616) (fun L a x a1 hx => by
    obtain ⟨m, b, h1, h2⟩ := bindP_some hx
    obtain ⟨l, c, h3, h4⟩ := bindP_some h2
    split at h4
    · simp only [Option.some.injEq, Prod.mk.injEq] at h4
      omega
    · cases h4) k hr
set_option maxHeartbeats 20000000 in
set_option maxRecDepth 100000 in
theorem rmsg_any {w : World} {r : Nat} {A : Option Addr} {n c : Nat} {L : List UInt8} {a : Nat} (h : RSt w r A n c L a) (h9 : n ≤ 1000000000000) :
    Calls Try.prog 55 #[.pointer (some ⟨r, 0, none⟩)] w (GAns (MsgV w.heap.size) w r A n c L (gMsg okP L a)) := by
  have hmf : ∀ (fn : Fn) (first cap : Array Value) (w : World), (Instr.makeFunc fn first cap).run Try.prog w = .ok (.func fn first cap) w := fun _ _ _ _ => rfl
  have bA : Below w.heap.size w (w.alloc (.cells #[.int .i64 0, .int .i64 0, .int .i64 0, .int .i64 0, .int .i64 0, .int .i64 0, .int .i64 0, .int .i64 0, .int .i64 0, .string ⟨#[]⟩, .slice none 0 0, .slice none 0 0, .slice none 0 0, .slice none 0 0, .slice none 0 0] 30)) := (Below.refl _ _).alloc (Nat.le_refl _) _
  have FQ := Lib.hid (Fr.of_below bA (fp := fun i => i = r))
  have hrl := h.lt
  have hLn := h.len
  have hsn := h.size
  have HB := Lib.hid h.blk
  have XQ := Lib.hid (heap_alloc_new w (.cells #[.int .i64 0, .int .i64 0, .int .i64 0, .int .i64 0, .int .i64 0, .int .i64 0, .int .i64 0, .int .i64 0, .int .i64 0, .string ⟨#[]⟩, .slice none 0 0, .slice none 0 0, .slice none 0 0, .slice none 0 0, .slice none 0 0] 30))
  have hA := Lib.hid (fun (b : Nat) (hb : w.heap.size ≤ b) (b' off : Nat) (s' : Option Nat) (hn : 0 < n) (e : A = some ⟨b', off, s'⟩) => (show b' ≠ b by have := HB.out b' off s' hn e; omega))
  have HQ := Lib.hid (h.move bA)
  clear h bA
  rcases h1 : gInt L a with _ | ⟨kind, a1⟩
  · have HN := Lib.hid (show gMsg okP L a = none from bindP_no h1)
    have C9 := Lib.hid (rint_no HQ.out (gInt_none h1))
    go_enter Try.func55, Try.ntmps55
    go_wp2_with fail
    refine C9.out.mono ?_
    rintro e w9 ⟨rfl, f9⟩
    exact ⟨rfl, GAns.no HN.out (FQ.out.on f9)⟩
  have C9 := Lib.hid (rint_g HQ.out h1)
  have HN := Lib.hid (show gMsg okP L a = _ from bindP_yes h1)
  clear h1
  go_enter Try.func55, Try.ntmps55
  go_wp2_with fail
  refine C9.out.mono ?_
  rintro e w1 ⟨rfl, h2, f2⟩
  have hw1' := FQ.out.size
  have FQ1 := Lib.hid (FQ.out.on f2)
  have XQ1 := Lib.hid (MBox.fr XQ.out f2 (by omega))
  have hw1 := lt_of_block XQ1.out
  have bB : Below w1.heap.size w1 (w1.alloc (.cells #[.int .i64 kind, .int .i64 0, .int .i64 0, .int .i64 0, .int .i64 0, .int .i64 0, .int .i64 0, .int .i64 0, .int .i64 0, .string ⟨#[]⟩, .slice none 0 0, .slice none 0 0, .slice none 0 0, .slice none 0 0, .slice none 0 0] 30)) := (Below.refl _ _).alloc (Nat.le_refl _) _
  have hr1 := h2.lt
  clear FQ XQ HQ C9 hw1'
  have FQ := Lib.hid (FQ1.out.on (Fr.of_below bB))
  have XQ := Lib.hid (MBox.alloc XQ1.out (.cells #[.int .i64 kind, .int .i64 0, .int .i64 0, .int .i64 0, .int .i64 0, .int .i64 0, .int .i64 0, .int .i64 0, .int .i64 0, .string ⟨#[]⟩, .slice none 0 0, .slice none 0 0, .slice none 0 0, .slice none 0 0, .slice none 0 0] 30))
  have YQ := Lib.hid (show MBox _ _ (.int .i64 kind) (.int .i64 0) (.int .i64 0) (.int .i64 0) (.int .i64 0) (.int .i64 0) (.int .i64 0) (.int .i64 0) (.int .i64 0) (.string ⟨#[]⟩) (.slice none 0 0) (.slice none 0 0) (.slice none 0 0) (.slice none 0 0) (.slice none 0 0) from heap_alloc_new w1 (.cells #[.int .i64 kind, .int .i64 0, .int .i64 0, .int .i64 0, .int .i64 0, .int .i64 0, .int .i64 0, .int .i64 0, .int .i64 0, .string ⟨#[]⟩, .slice none 0 0, .slice none 0 0, .slice none 0 0, .slice none 0 0, .slice none 0 0] 30))
  have HQ := Lib.hid (h2.move bB)
  clear h2 f2 FQ1 XQ1 bB
  rcases hr : gAddr L a1 with _ | ⟨⟨fs, fn⟩, a2⟩
  · have HN := Lib.hid (HN.out.trans (bindA_no hr))
    have C9 := Lib.hid (raddr_no HQ.out hr)
    go_wp2_with fail
    refine C9.out.mono ?_
    rintro e w9 ⟨rfl, f9⟩
    exact ⟨rfl, GAns.no HN.out (FQ.out.on f9)⟩
  have C9 := Lib.hid (raddr_g HQ.out hr)
  have HN' := Lib.hid (HN.out.trans (bindA_yes hr))
  clear HN
  have HN := HN'
  clear HN'
  clear hr
  go_wp2_with fail
  refine C9.out.mono ?_
  rintro e w2 ⟨rfl, h2, f2⟩
  have FQ' := Lib.hid (FQ.out.on f2)
  have XQ' := Lib.hid (XQ.out.fr f2 (by omega))
  have YQ' := Lib.hid (YQ.out.fr f2 (by omega))
  have HQ' := Lib.hid h2
  clear FQ XQ YQ HQ
  have FQ := FQ'
  have XQ := XQ'
  have YQ := YQ'
  have HQ := HQ'
  clear FQ' XQ' YQ' HQ' C9
  clear h2 f2
  rcases hr : gAddr L a2 with _ | ⟨⟨ts, tn⟩, a3⟩
  · have HN := Lib.hid (HN.out.trans (bindA_no hr))
    have C9 := Lib.hid (raddr_no HQ.out hr)
    go_wp2_with fail
    refine C9.out.mono ?_
    rintro e w9 ⟨rfl, f9⟩
    exact ⟨rfl, GAns.no HN.out (FQ.out.on f9)⟩
  have C9 := Lib.hid (raddr_g HQ.out hr)
  have HN' := Lib.hid (HN.out.trans (bindA_yes hr))
  clear HN
  have HN := HN'
  clear HN'
  clear hr
  go_wp2_with fail
  refine C9.out.mono ?_
  rintro e w3 ⟨rfl, h2, f2⟩
  have FQ' := Lib.hid (FQ.out.on f2)
  have XQ' := Lib.hid (XQ.out.fr f2 (by omega))
  have YQ' := Lib.hid (YQ.out.fr f2 (by omega))
  have HQ' := Lib.hid h2
  clear FQ XQ YQ HQ
  have FQ := FQ'
  have XQ := XQ'
  have YQ := YQ'
  have HQ := HQ'
  clear FQ' XQ' YQ' HQ' C9
  clear h2 f2
  have y1 := mcell (j := 1) YQ.out rfl
  have u1 := frozen_of_row _ _ 1 _ _ YQ.out
  have y2 := mcell (j := 2) YQ.out rfl
  have u2 := frozen_of_row _ _ 2 _ _ YQ.out
  have y3 := mcell (j := 3) YQ.out rfl
  have u3 := frozen_of_row _ _ 3 _ _ YQ.out
  have y4 := mcell (j := 4) YQ.out rfl
  have u4 := frozen_of_row _ _ 4 _ _ YQ.out
  have FQ' := Lib.hid ((((FQ.out.put (b := w1.heap.size) (j := 1) (by omega) (.int .i64 fs)).put (b := w1.heap.size) (j := 2) (by omega) (.int .i64 fn)).put (b := w1.heap.size) (j := 3) (by omega) (.int .i64 ts)).put (b := w1.heap.size) (j := 4) (by omega) (.int .i64 tn))
  have XQ' := Lib.hid ((((XQ.out.other (b' := w1.heap.size) (j := 1) (by omega) (.int .i64 fs)).other (b' := w1.heap.size) (j := 2) (by omega) (.int .i64 fn)).other (b' := w1.heap.size) (j := 3) (by omega) (.int .i64 ts)).other (b' := w1.heap.size) (j := 4) (by omega) (.int .i64 tn))
  have YQ' := Lib.hid ((((YQ.out.set1 (.int .i64 fs)).set2 (.int .i64 fn)).set3 (.int .i64 ts)).set4 (.int .i64 tn))
  have HQ' := Lib.hid ((((HQ.out.setOther (b := w1.heap.size) (j := 1) (by omega) (hA.out _ (by omega)) (.int .i64 fs)).setOther (b := w1.heap.size) (j := 2) (by omega) (hA.out _ (by omega)) (.int .i64 fn)).setOther (b := w1.heap.size) (j := 3) (by omega) (hA.out _ (by omega)) (.int .i64 ts)).setOther (b := w1.heap.size) (j := 4) (by omega) (hA.out _ (by omega)) (.int .i64 tn))
  go_wp2_with fail
  clear y1 u1 y2 u2 y3 u3 y4 u4
  clear FQ XQ YQ HQ
  have FQ := FQ'
  have XQ := XQ'
  have YQ := YQ'
  have HQ := HQ'
  clear FQ' XQ' YQ' HQ'
  generalize ((((w3.setCell ⟨w1.heap.size, 1, none⟩ (.int .i64 fs)).setCell ⟨w1.heap.size, 2, none⟩ (.int .i64 fn)).setCell ⟨w1.heap.size, 3, none⟩ (.int .i64 ts)).setCell ⟨w1.heap.size, 4, none⟩ (.int .i64 tn)) = wa at *
  have hsz := lt_of_block YQ.out
  rcases hr : gInt L a3 with _ | ⟨id, a4⟩
  · have HN := Lib.hid (HN.out.trans (bindP_no hr))
    have C9 := Lib.hid (rnum_no HQ.out (gInt_none hr))
    go_wp2_with fail
    refine C9.out.mono ?_
    rintro e w9 ⟨rfl, f9⟩
    exact ⟨rfl, GAns.no HN.out (FQ.out.on f9)⟩
  have C9 := Lib.hid (rnum_g HQ.out hr)
  have HN' := Lib.hid (HN.out.trans (bindP_yes hr))
  clear HN
  have HN := HN'
  clear HN'
  have hid := int_range hr
  clear hr
  go_wp2_with fail
  refine C9.out.mono ?_
  rintro e w4 ⟨rfl, h2, f2⟩
  have FQ' := Lib.hid (FQ.out.on f2)
  have XQ' := Lib.hid (XQ.out.fr f2 (by omega))
  have YQ' := Lib.hid (YQ.out.fr f2 (by omega))
  have HQ' := Lib.hid h2
  clear FQ XQ YQ HQ
  have FQ := FQ'
  have XQ := XQ'
  have YQ := YQ'
  have HQ := HQ'
  clear FQ' XQ' YQ' HQ' C9
  clear h2 f2
  rcases hr : gInt L a4 with _ | ⟨mn, a5⟩
  · have HN := Lib.hid (HN.out.trans (bindP_no hr))
    have C9 := Lib.hid (rnum_no HQ.out (gInt_none hr))
    go_wp2_with fail
    refine C9.out.mono ?_
    rintro e w9 ⟨rfl, f9⟩
    exact ⟨rfl, GAns.no HN.out (FQ.out.on f9)⟩
  have C9 := Lib.hid (rnum_g HQ.out hr)
  have HN' := Lib.hid (HN.out.trans (bindP_yes hr))
  clear HN
  have HN := HN'
  clear HN'
  have hmn := int_range hr
  clear hr
  go_wp2_with fail
  refine C9.out.mono ?_
  rintro e w5 ⟨rfl, h2, f2⟩
  have FQ' := Lib.hid (FQ.out.on f2)
  have XQ' := Lib.hid (XQ.out.fr f2 (by omega))
  have YQ' := Lib.hid (YQ.out.fr f2 (by omega))
  have HQ' := Lib.hid h2
  clear FQ XQ YQ HQ
  have FQ := FQ'
  have XQ := XQ'
  have YQ := YQ'
  have HQ := HQ'
  clear FQ' XQ' YQ' HQ' C9
  clear h2 f2
  rcases hr : gInt L a5 with _ | ⟨fo, a6⟩
  · have HN := Lib.hid (HN.out.trans (bindP_no hr))
    have C9 := Lib.hid (rint_no HQ.out (gInt_none hr))
    go_wp2_with fail
    refine C9.out.mono ?_
    rintro e w9 ⟨rfl, f9⟩
    exact ⟨rfl, GAns.no HN.out (FQ.out.on f9)⟩
  have C9 := Lib.hid (rint_g HQ.out hr)
  have HN' := Lib.hid (HN.out.trans (bindP_yes hr))
  clear HN
  have HN := HN'
  clear HN'
  clear hr
  go_wp2_with fail
  refine C9.out.mono ?_
  rintro e w6 ⟨rfl, h2, f2⟩
  have FQ' := Lib.hid (FQ.out.on f2)
  have XQ' := Lib.hid (XQ.out.fr f2 (by omega))
  have YQ' := Lib.hid (YQ.out.fr f2 (by omega))
  have HQ' := Lib.hid h2
  clear FQ XQ YQ HQ
  have FQ := FQ'
  have XQ := XQ'
  have YQ := YQ'
  have HQ := HQ'
  clear FQ' XQ' YQ' HQ' C9
  clear h2 f2
  have y5 := mcell (j := 5) YQ.out rfl
  have u5 := frozen_of_row _ _ 5 _ _ YQ.out
  have y6 := mcell (j := 6) YQ.out rfl
  have u6 := frozen_of_row _ _ 6 _ _ YQ.out
  have y7 := mcell (j := 7) YQ.out rfl
  have u7 := frozen_of_row _ _ 7 _ _ YQ.out
  have FQ' := Lib.hid (((FQ.out.put (b := w1.heap.size) (j := 5) (by omega) (.int .i64 id)).put (b := w1.heap.size) (j := 6) (by omega) (.int .i64 mn)).put (b := w1.heap.size) (j := 7) (by omega) (.int .i64 fo))
  have XQ' := Lib.hid (((XQ.out.other (b' := w1.heap.size) (j := 5) (by omega) (.int .i64 id)).other (b' := w1.heap.size) (j := 6) (by omega) (.int .i64 mn)).other (b' := w1.heap.size) (j := 7) (by omega) (.int .i64 fo))
  have YQ' := Lib.hid (((YQ.out.set5 (.int .i64 id)).set6 (.int .i64 mn)).set7 (.int .i64 fo))
  have HQ' := Lib.hid (((HQ.out.setOther (b := w1.heap.size) (j := 5) (by omega) (hA.out _ (by omega)) (.int .i64 id)).setOther (b := w1.heap.size) (j := 6) (by omega) (hA.out _ (by omega)) (.int .i64 mn)).setOther (b := w1.heap.size) (j := 7) (by omega) (hA.out _ (by omega)) (.int .i64 fo))
  go_wp2_with fail
  clear y5 u5 y6 u6 y7 u7
  clear FQ XQ YQ HQ
  have FQ := FQ'
  have XQ := XQ'
  have YQ := YQ'
  have HQ := HQ'
  clear FQ' XQ' YQ' HQ'
  generalize (((w6.setCell ⟨w1.heap.size, 5, none⟩ (.int .i64 id)).setCell ⟨w1.heap.size, 6, none⟩ (.int .i64 mn)).setCell ⟨w1.heap.size, 7, none⟩ (.int .i64 fo)) = wb at *
  have hsz := lt_of_block YQ.out
  rcases hr : gInt L a6 with _ | ⟨code, a7⟩
  · have HN := Lib.hid (HN.out.trans (bindP_no hr))
    have C9 := Lib.hid (rnum_no HQ.out (gInt_none hr))
    go_wp2_with fail
    refine C9.out.mono ?_
    rintro e w9 ⟨rfl, f9⟩
    exact ⟨rfl, GAns.no HN.out (FQ.out.on f9)⟩
  have C9 := Lib.hid (rnum_g HQ.out hr)
  have HN' := Lib.hid (HN.out.trans (bindP_yes hr))
  clear HN
  have HN := HN'
  clear HN'
  clear hr
  go_wp2_with fail
  refine C9.out.mono ?_
  rintro e w7 ⟨rfl, h2, f2⟩
  have FQ' := Lib.hid (FQ.out.on f2)
  have XQ' := Lib.hid (XQ.out.fr f2 (by omega))
  have YQ' := Lib.hid (YQ.out.fr f2 (by omega))
  have HQ' := Lib.hid h2
  clear FQ XQ YQ HQ
  have FQ := FQ'
  have XQ := XQ'
  have YQ := YQ'
  have HQ := HQ'
  clear FQ' XQ' YQ' HQ' C9
  clear h2 f2
  have y8 := mcell (j := 8) YQ.out rfl
  have u8 := frozen_of_row _ _ 8 _ _ YQ.out
  have FQ' := Lib.hid (FQ.out.put (b := w1.heap.size) (j := 8) (by omega) (.int .i64 code))
  have XQ' := Lib.hid (XQ.out.other (b' := w1.heap.size) (j := 8) (by omega) (.int .i64 code))
  have YQ' := Lib.hid (YQ.out.set8 (.int .i64 code))
  have HQ' := Lib.hid (HQ.out.setOther (b := w1.heap.size) (j := 8) (by omega) (hA.out _ (by omega)) (.int .i64 code))
  go_wp2_with fail
  clear y8 u8
  clear FQ XQ YQ HQ
  have FQ := FQ'
  have XQ := XQ'
  have YQ := YQ'
  have HQ := HQ'
  clear FQ' XQ' YQ' HQ'
  generalize (w7.setCell ⟨w1.heap.size, 8, none⟩ (.int .i64 code)) = wc at *
  have hsz := lt_of_block YQ.out
  rcases hr : gText L a7 with _ | ⟨key, a8⟩
  · have HN := Lib.hid (HN.out.trans (bindP_no hr))
    have C9 := Lib.hid (rtext_no HQ.out hr)
    go_wp2_with fail
    refine C9.out.mono ?_
    rintro e w9 ⟨rfl, f9⟩
    exact ⟨rfl, GAns.no HN.out (FQ.out.on f9)⟩
  have C9 := Lib.hid (rtext_yes HQ.out hr)
  have HN' := Lib.hid (HN.out.trans (bindP_yes hr))
  clear HN
  have HN := HN'
  clear HN'
  have hkey := text_size hr
  clear hr
  go_wp2_with fail
  refine C9.out.mono ?_
  rintro e w8 ⟨rfl, h2, f2⟩
  have FQ' := Lib.hid (FQ.out.on f2)
  have XQ' := Lib.hid (XQ.out.fr f2 (by omega))
  have YQ' := Lib.hid (YQ.out.fr f2 (by omega))
  have HQ' := Lib.hid h2
  clear FQ XQ YQ HQ
  have FQ := FQ'
  have XQ := XQ'
  have YQ := YQ'
  have HQ := HQ'
  clear FQ' XQ' YQ' HQ' C9
  clear h2 f2
  have y9 := mcell (j := 9) YQ.out rfl
  have u9 := frozen_of_row _ _ 9 _ _ YQ.out
  have FQ' := Lib.hid (FQ.out.put (b := w1.heap.size) (j := 9) (by omega) (.string key))
  have XQ' := Lib.hid (XQ.out.other (b' := w1.heap.size) (j := 9) (by omega) (.string key))
  have YQ' := Lib.hid (YQ.out.set9 (.string key))
  have HQ' := Lib.hid (HQ.out.setOther (b := w1.heap.size) (j := 9) (by omega) (hA.out _ (by omega)) (.string key))
  go_wp2_with fail
  clear y9 u9
  clear FQ XQ YQ HQ
  have FQ := FQ'
  have XQ := XQ'
  have YQ := YQ'
  have HQ := HQ'
  clear FQ' XQ' YQ' HQ'
  generalize (w8.setCell ⟨w1.heap.size, 9, none⟩ (.string key)) = wd at *
  have hsz := lt_of_block YQ.out
  have hz10 := lt_of_block YQ.out
  rcases hr : pTake (gRec okP) L a8 with _ | ⟨recs, a9⟩
  · have HN := Lib.hid (HN.out.trans (bindP_no hr))
    have c9 := take_recs HQ.out (by omega)
    rw [hr] at c9
    have C9 := Lib.hid c9
    go_wp2_with fail
    refine C9.out.mono ?_
    rintro e w9 ⟨rfl, f9⟩
    exact ⟨rfl, GAns.no HN.out (FQ.out.on f9)⟩
  have c9 := take_recs HQ.out (by omega)
  rw [hr] at c9
  have C9 := Lib.hid c9
  clear c9
  have HN' := Lib.hid (HN.out.trans (bindP_yes hr))
  clear HN
  have HN := HN'
  clear HN'
  have hlrecs := take_len hr
  clear hr
  go_wp2_with fail
  refine C9.out.mono ?_
  rintro e w9 ⟨pv, rfl, ⟨rows, hrows, hO⟩, h2, f2⟩
  obtain ⟨Ar, cr, rfl, -, -⟩ := own_slice hO.1
  have F2 := Lib.hid f2
  have FQ' := Lib.hid (FQ.out.on f2)
  have XQ' := Lib.hid (XQ.out.fr f2 (by omega))
  have YQ' := Lib.hid (YQ.out.fr f2 (by omega))
  have HQ' := Lib.hid h2
  clear FQ XQ YQ HQ
  have FQ := FQ'
  have XQ := XQ'
  have YQ := YQ'
  have HQ := HQ'
  clear FQ' XQ' YQ' HQ' C9
  clear h2 f2
  have y10 := mcell (j := 10) YQ.out rfl
  have u10 := frozen_of_row _ _ 10 _ _ YQ.out
  have FQ' := Lib.hid (FQ.out.put (b := w1.heap.size) (j := 10) (by omega) (.slice Ar recs.length cr))
  have XQ' := Lib.hid (XQ.out.other (b' := w1.heap.size) (j := 10) (by omega) (.slice Ar recs.length cr))
  have YQ' := Lib.hid (YQ.out.set10 (.slice Ar recs.length cr))
  have HQ' := Lib.hid (HQ.out.setOther (b := w1.heap.size) (j := 10) (by omega) (hA.out _ (by omega)) (.slice Ar recs.length cr))
  have OR := Lib.hid (OwnR.keepF hO ((Fr.refl (fun i => i = r ∨ i = w.heap.size ∨ i = w1.heap.size) w9).more (b := w1.heap.size) (j := 10) (.inr (.inr rfl)) (.slice Ar recs.length cr)) (fun i hi => by rintro (e | e | e) <;> omega))
  clear hO F2
  go_wp2_with fail
  clear y10 u10
  clear FQ XQ YQ HQ
  have FQ := FQ'
  have XQ := XQ'
  have YQ := YQ'
  have HQ := HQ'
  clear FQ' XQ' YQ' HQ'
  generalize (w9.setCell ⟨w1.heap.size, 10, none⟩ (.slice Ar recs.length cr)) = we at *
  have hsz := lt_of_block YQ.out
  have hz11 := lt_of_block YQ.out
  rcases hr : pTake gInt L a9 with _ | ⟨vec, a10⟩
  · have HN := Lib.hid (HN.out.trans (bindP_no hr))
    have c9 := take_nums HQ.out (by omega)
    rw [hr] at c9
    have C9 := Lib.hid c9
    go_wp2_with fail
    refine C9.out.mono ?_
    rintro e w9 ⟨rfl, f9⟩
    exact ⟨rfl, GAns.no HN.out (FQ.out.on f9)⟩
  have c9 := take_nums HQ.out (by omega)
  rw [hr] at c9
  have C9 := Lib.hid c9
  clear c9
  have HN' := Lib.hid (HN.out.trans (bindP_yes hr))
  clear HN
  have HN := HN'
  clear HN'
  have hlvec := take_len hr
  clear hr
  go_wp2_with fail
  refine C9.out.mono ?_
  rintro e w10 ⟨pv, rfl, hO, h2, f2⟩
  obtain ⟨Av, cv, rfl, -, -⟩ := own_slice hO
  have F2 := Lib.hid f2
  have FQ' := Lib.hid (FQ.out.on f2)
  have XQ' := Lib.hid (XQ.out.fr f2 (by omega))
  have YQ' := Lib.hid (YQ.out.fr f2 (by omega))
  have HQ' := Lib.hid h2
  clear FQ XQ YQ HQ
  have FQ := FQ'
  have XQ := XQ'
  have YQ := YQ'
  have HQ := HQ'
  clear FQ' XQ' YQ' HQ' C9
  clear h2 f2
  have y11 := mcell (j := 11) YQ.out rfl
  have u11 := frozen_of_row _ _ 11 _ _ YQ.out
  have FQ' := Lib.hid (FQ.out.put (b := w1.heap.size) (j := 11) (by omega) (.slice Av vec.length cv))
  have XQ' := Lib.hid (XQ.out.other (b' := w1.heap.size) (j := 11) (by omega) (.slice Av vec.length cv))
  have YQ' := Lib.hid (YQ.out.set11 (.slice Av vec.length cv))
  have HQ' := Lib.hid (HQ.out.setOther (b := w1.heap.size) (j := 11) (by omega) (hA.out _ (by omega)) (.slice Av vec.length cv))
  have OR' := Lib.hid (OwnR.keepF OR.out ((Fr.wide (FP := (fun i => i = r ∨ i = w.heap.size ∨ i = w1.heap.size)) F2.out (.inl rfl)).more (b := w1.heap.size) (j := 11) (.inr (.inr rfl)) (.slice Av vec.length cv)) (fun i hi => by rintro (e | e | e) <;> omega))
  clear OR
  have OR := OR'
  clear OR'
  have OV := Lib.hid (own_keepF hO ((Fr.refl (fun i => i = r ∨ i = w.heap.size ∨ i = w1.heap.size) w10).more (b := w1.heap.size) (j := 11) (.inr (.inr rfl)) (.slice Av vec.length cv)) (fun i hi => by rintro (e | e | e) <;> omega))
  clear hO F2
  go_wp2_with fail
  clear y11 u11
  clear FQ XQ YQ HQ
  have FQ := FQ'
  have XQ := XQ'
  have YQ := YQ'
  have HQ := HQ'
  clear FQ' XQ' YQ' HQ'
  generalize (w10.setCell ⟨w1.heap.size, 11, none⟩ (.slice Av vec.length cv)) = wf at *
  have hsz := lt_of_block YQ.out
  have hz12 := lt_of_block YQ.out
  rcases hr : pTake gInt L a10 with _ | ⟨path, a11⟩
  · have HN := Lib.hid (HN.out.trans (bindP_no hr))
    have c9 := take_ints HQ.out (by omega)
    rw [hr] at c9
    have C9 := Lib.hid c9
    go_wp2_with fail
    refine C9.out.mono ?_
    rintro e w9 ⟨rfl, f9⟩
    exact ⟨rfl, GAns.no HN.out (FQ.out.on f9)⟩
  have c9 := take_ints HQ.out (by omega)
  rw [hr] at c9
  have C9 := Lib.hid c9
  clear c9
  have HN' := Lib.hid (HN.out.trans (bindP_yes hr))
  clear HN
  have HN := HN'
  clear HN'
  have hlpath := take_len hr
  clear hr
  go_wp2_with fail
  refine C9.out.mono ?_
  rintro e w11 ⟨pv, rfl, hO, h2, f2⟩
  obtain ⟨Ap, cp, rfl, -, -⟩ := own_slice hO
  have F2 := Lib.hid f2
  have FQ' := Lib.hid (FQ.out.on f2)
  have XQ' := Lib.hid (XQ.out.fr f2 (by omega))
  have YQ' := Lib.hid (YQ.out.fr f2 (by omega))
  have HQ' := Lib.hid h2
  clear FQ XQ YQ HQ
  have FQ := FQ'
  have XQ := XQ'
  have YQ := YQ'
  have HQ := HQ'
  clear FQ' XQ' YQ' HQ' C9
  clear h2 f2
  have y12 := mcell (j := 12) YQ.out rfl
  have u12 := frozen_of_row _ _ 12 _ _ YQ.out
  have FQ' := Lib.hid (FQ.out.put (b := w1.heap.size) (j := 12) (by omega) (.slice Ap path.length cp))
  have XQ' := Lib.hid (XQ.out.other (b' := w1.heap.size) (j := 12) (by omega) (.slice Ap path.length cp))
  have YQ' := Lib.hid (YQ.out.set12 (.slice Ap path.length cp))
  have HQ' := Lib.hid (HQ.out.setOther (b := w1.heap.size) (j := 12) (by omega) (hA.out _ (by omega)) (.slice Ap path.length cp))
  have OR' := Lib.hid (OwnR.keepF OR.out ((Fr.wide (FP := (fun i => i = r ∨ i = w.heap.size ∨ i = w1.heap.size)) F2.out (.inl rfl)).more (b := w1.heap.size) (j := 12) (.inr (.inr rfl)) (.slice Ap path.length cp)) (fun i hi => by rintro (e | e | e) <;> omega))
  have OV' := Lib.hid (own_keepF OV.out ((Fr.wide (FP := (fun i => i = r ∨ i = w.heap.size ∨ i = w1.heap.size)) F2.out (.inl rfl)).more (b := w1.heap.size) (j := 12) (.inr (.inr rfl)) (.slice Ap path.length cp)) (fun i hi => by rintro (e | e | e) <;> omega))
  clear OR OV
  have OR := OR'
  clear OR'
  have OV := OV'
  clear OV'
  have OP := Lib.hid (own_keepF hO ((Fr.refl (fun i => i = r ∨ i = w.heap.size ∨ i = w1.heap.size) w11).more (b := w1.heap.size) (j := 12) (.inr (.inr rfl)) (.slice Ap path.length cp)) (fun i hi => by rintro (e | e | e) <;> omega))
  clear hO F2
  go_wp2_with fail
  clear y12 u12
  clear FQ XQ YQ HQ
  have FQ := FQ'
  have XQ := XQ'
  have YQ := YQ'
  have HQ := HQ'
  clear FQ' XQ' YQ' HQ'
  generalize (w11.setCell ⟨w1.heap.size, 12, none⟩ (.slice Ap path.length cp)) = wg at *
  have hsz := lt_of_block YQ.out
  have hz13 := lt_of_block YQ.out
  rcases hr : pTake gHash L a11 with _ | ⟨hashes, a12⟩
  · have HN := Lib.hid (HN.out.trans (bindP_no hr))
    have c9 := take_hashes HQ.out (by omega)
    rw [hr] at c9
    have C9 := Lib.hid c9
    go_wp2_with fail
    refine C9.out.mono ?_
    rintro e w9 ⟨rfl, f9⟩
    exact ⟨rfl, GAns.no HN.out (FQ.out.on f9)⟩
  have c9 := take_hashes HQ.out (by omega)
  rw [hr] at c9
  have C9 := Lib.hid c9
  clear c9
  have HN' := Lib.hid (HN.out.trans (bindP_yes hr))
  clear HN
  have HN := HN'
  clear HN'
  have hlhashes := take_len hr
  have HH := Lib.hid (hash_range hr)
  clear hr
  go_wp2_with fail
  refine C9.out.mono ?_
  rintro e w12 ⟨pv, rfl, hO, h2, f2⟩
  obtain ⟨Ah, ch, rfl, -, -⟩ := own_slice hO
  have F2 := Lib.hid f2
  have FQ' := Lib.hid (FQ.out.on f2)
  have XQ' := Lib.hid (XQ.out.fr f2 (by omega))
  have YQ' := Lib.hid (YQ.out.fr f2 (by omega))
  have HQ' := Lib.hid h2
  clear FQ XQ YQ HQ
  have FQ := FQ'
  have XQ := XQ'
  have YQ := YQ'
  have HQ := HQ'
  clear FQ' XQ' YQ' HQ' C9
  clear h2 f2
  have y13 := mcell (j := 13) YQ.out rfl
  have u13 := frozen_of_row _ _ 13 _ _ YQ.out
  have FQ' := Lib.hid (FQ.out.put (b := w1.heap.size) (j := 13) (by omega) (.slice Ah hashes.length ch))
  have XQ' := Lib.hid (XQ.out.other (b' := w1.heap.size) (j := 13) (by omega) (.slice Ah hashes.length ch))
  have YQ' := Lib.hid (YQ.out.set13 (.slice Ah hashes.length ch))
  have HQ' := Lib.hid (HQ.out.setOther (b := w1.heap.size) (j := 13) (by omega) (hA.out _ (by omega)) (.slice Ah hashes.length ch))
  have OR' := Lib.hid (OwnR.keepF OR.out ((Fr.wide (FP := (fun i => i = r ∨ i = w.heap.size ∨ i = w1.heap.size)) F2.out (.inl rfl)).more (b := w1.heap.size) (j := 13) (.inr (.inr rfl)) (.slice Ah hashes.length ch)) (fun i hi => by rintro (e | e | e) <;> omega))
  have OV' := Lib.hid (own_keepF OV.out ((Fr.wide (FP := (fun i => i = r ∨ i = w.heap.size ∨ i = w1.heap.size)) F2.out (.inl rfl)).more (b := w1.heap.size) (j := 13) (.inr (.inr rfl)) (.slice Ah hashes.length ch)) (fun i hi => by rintro (e | e | e) <;> omega))
  have OP' := Lib.hid (own_keepF OP.out ((Fr.wide (FP := (fun i => i = r ∨ i = w.heap.size ∨ i = w1.heap.size)) F2.out (.inl rfl)).more (b := w1.heap.size) (j := 13) (.inr (.inr rfl)) (.slice Ah hashes.length ch)) (fun i hi => by rintro (e | e | e) <;> omega))
  clear OR OV OP
  have OR := OR'
  clear OR'
  have OV := OV'
  clear OV'
  have OP := OP'
  clear OP'
  have OH := Lib.hid (own_keepF hO ((Fr.refl (fun i => i = r ∨ i = w.heap.size ∨ i = w1.heap.size) w12).more (b := w1.heap.size) (j := 13) (.inr (.inr rfl)) (.slice Ah hashes.length ch)) (fun i hi => by rintro (e | e | e) <;> omega))
  clear hO F2
  go_wp2_with fail
  clear y13 u13
  clear FQ XQ YQ HQ
  have FQ := FQ'
  have XQ := XQ'
  have YQ := YQ'
  have HQ := HQ'
  clear FQ' XQ' YQ' HQ'
  generalize (w12.setCell ⟨w1.heap.size, 13, none⟩ (.slice Ah hashes.length ch)) = wh at *
  have hsz := lt_of_block YQ.out
  have hz14 := lt_of_block YQ.out
  rcases hr : pTake gInt L a12 with _ | ⟨route, a13⟩
  · have HN := Lib.hid (HN.out.trans (bindP_no hr))
    have c9 := take_ints HQ.out (by omega)
    rw [hr] at c9
    have C9 := Lib.hid c9
    go_wp2_with fail
    refine C9.out.mono ?_
    rintro e w9 ⟨rfl, f9⟩
    exact ⟨rfl, GAns.no HN.out (FQ.out.on f9)⟩
  have c9 := take_ints HQ.out (by omega)
  rw [hr] at c9
  have C9 := Lib.hid c9
  clear c9
  have HN' := Lib.hid (HN.out.trans (bindP_yes hr))
  clear HN
  have HN := HN'
  clear HN'
  have hlroute := take_len hr
  clear hr
  go_wp2_with fail
  refine C9.out.mono ?_
  rintro e w13 ⟨pv, rfl, hO, h2, f2⟩
  obtain ⟨Ao, co, rfl, -, -⟩ := own_slice hO
  have F2 := Lib.hid f2
  have FQ' := Lib.hid (FQ.out.on f2)
  have XQ' := Lib.hid (XQ.out.fr f2 (by omega))
  have YQ' := Lib.hid (YQ.out.fr f2 (by omega))
  have HQ' := Lib.hid h2
  clear FQ XQ YQ HQ
  have FQ := FQ'
  have XQ := XQ'
  have YQ := YQ'
  have HQ := HQ'
  clear FQ' XQ' YQ' HQ' C9
  clear h2 f2
  have y0 := mcell (j := 0) YQ.out rfl
  have x0 := mcell (j := 0) XQ.out rfl
  have z0 := frozen_of_row _ _ 0 _ _ XQ.out
  have y1 := mcell (j := 1) YQ.out rfl
  have x1 := mcell (j := 1) XQ.out rfl
  have z1 := frozen_of_row _ _ 1 _ _ XQ.out
  have y2 := mcell (j := 2) YQ.out rfl
  have x2 := mcell (j := 2) XQ.out rfl
  have z2 := frozen_of_row _ _ 2 _ _ XQ.out
  have y3 := mcell (j := 3) YQ.out rfl
  have x3 := mcell (j := 3) XQ.out rfl
  have z3 := frozen_of_row _ _ 3 _ _ XQ.out
  have y4 := mcell (j := 4) YQ.out rfl
  have x4 := mcell (j := 4) XQ.out rfl
  have z4 := frozen_of_row _ _ 4 _ _ XQ.out
  have y5 := mcell (j := 5) YQ.out rfl
  have x5 := mcell (j := 5) XQ.out rfl
  have z5 := frozen_of_row _ _ 5 _ _ XQ.out
  have y6 := mcell (j := 6) YQ.out rfl
  have x6 := mcell (j := 6) XQ.out rfl
  have z6 := frozen_of_row _ _ 6 _ _ XQ.out
  have y7 := mcell (j := 7) YQ.out rfl
  have x7 := mcell (j := 7) XQ.out rfl
  have z7 := frozen_of_row _ _ 7 _ _ XQ.out
  have y8 := mcell (j := 8) YQ.out rfl
  have x8 := mcell (j := 8) XQ.out rfl
  have z8 := frozen_of_row _ _ 8 _ _ XQ.out
  have y9 := mcell (j := 9) YQ.out rfl
  have x9 := mcell (j := 9) XQ.out rfl
  have z9 := frozen_of_row _ _ 9 _ _ XQ.out
  have y10 := mcell (j := 10) YQ.out rfl
  have x10 := mcell (j := 10) XQ.out rfl
  have z10 := frozen_of_row _ _ 10 _ _ XQ.out
  have y11 := mcell (j := 11) YQ.out rfl
  have x11 := mcell (j := 11) XQ.out rfl
  have z11 := frozen_of_row _ _ 11 _ _ XQ.out
  have y12 := mcell (j := 12) YQ.out rfl
  have x12 := mcell (j := 12) XQ.out rfl
  have z12 := frozen_of_row _ _ 12 _ _ XQ.out
  have y13 := mcell (j := 13) YQ.out rfl
  have x13 := mcell (j := 13) XQ.out rfl
  have z13 := frozen_of_row _ _ 13 _ _ XQ.out
  have x14 := mcell (j := 14) XQ.out rfl
  have z14 := frozen_of_row _ _ 14 _ _ XQ.out
  have y14 := mcell (j := 14) YQ.out rfl
  have u14 := frozen_of_row _ _ 14 _ _ YQ.out
  have RF := Lib.hid ((((((((((((((((HQ.out.setOther (b := w1.heap.size) (j := 14) (by omega) (hA.out _ (by omega)) (.slice Ao route.length co)).setOther (b := w.heap.size) (j := 0) (by omega) (hA.out _ (by omega)) (.int .i64 kind)).setOther (b := w.heap.size) (j := 1) (by omega) (hA.out _ (by omega)) (.int .i64 fs)).setOther (b := w.heap.size) (j := 2) (by omega) (hA.out _ (by omega)) (.int .i64 fn)).setOther (b := w.heap.size) (j := 3) (by omega) (hA.out _ (by omega)) (.int .i64 ts)).setOther (b := w.heap.size) (j := 4) (by omega) (hA.out _ (by omega)) (.int .i64 tn)).setOther (b := w.heap.size) (j := 5) (by omega) (hA.out _ (by omega)) (.int .i64 id)).setOther (b := w.heap.size) (j := 6) (by omega) (hA.out _ (by omega)) (.int .i64 mn)).setOther (b := w.heap.size) (j := 7) (by omega) (hA.out _ (by omega)) (.int .i64 fo)).setOther (b := w.heap.size) (j := 8) (by omega) (hA.out _ (by omega)) (.int .i64 code)).setOther (b := w.heap.size) (j := 9) (by omega) (hA.out _ (by omega)) (.string key)).setOther (b := w.heap.size) (j := 10) (by omega) (hA.out _ (by omega)) (.slice Ar recs.length cr)).setOther (b := w.heap.size) (j := 11) (by omega) (hA.out _ (by omega)) (.slice Av vec.length cv)).setOther (b := w.heap.size) (j := 12) (by omega) (hA.out _ (by omega)) (.slice Ap path.length cp)).setOther (b := w.heap.size) (j := 13) (by omega) (hA.out _ (by omega)) (.slice Ah hashes.length ch)).setOther (b := w.heap.size) (j := 14) (by omega) (hA.out _ (by omega)) (.slice Ao route.length co))
  have FF := Lib.hid ((((((((((((((((FQ.out.put (b := w1.heap.size) (j := 14) (by omega) (.slice Ao route.length co)).put (b := w.heap.size) (j := 0) (by omega) (.int .i64 kind)).put (b := w.heap.size) (j := 1) (by omega) (.int .i64 fs)).put (b := w.heap.size) (j := 2) (by omega) (.int .i64 fn)).put (b := w.heap.size) (j := 3) (by omega) (.int .i64 ts)).put (b := w.heap.size) (j := 4) (by omega) (.int .i64 tn)).put (b := w.heap.size) (j := 5) (by omega) (.int .i64 id)).put (b := w.heap.size) (j := 6) (by omega) (.int .i64 mn)).put (b := w.heap.size) (j := 7) (by omega) (.int .i64 fo)).put (b := w.heap.size) (j := 8) (by omega) (.int .i64 code)).put (b := w.heap.size) (j := 9) (by omega) (.string key)).put (b := w.heap.size) (j := 10) (by omega) (.slice Ar recs.length cr)).put (b := w.heap.size) (j := 11) (by omega) (.slice Av vec.length cv)).put (b := w.heap.size) (j := 12) (by omega) (.slice Ap path.length cp)).put (b := w.heap.size) (j := 13) (by omega) (.slice Ah hashes.length ch)).put (b := w.heap.size) (j := 14) (by omega) (.slice Ao route.length co))
  have XF := Lib.hid (MBox.set14 (MBox.set13 (MBox.set12 (MBox.set11 (MBox.set10 (MBox.set9 (MBox.set8 (MBox.set7 (MBox.set6 (MBox.set5 (MBox.set4 (MBox.set3 (MBox.set2 (MBox.set1 (MBox.set0 (MBox.other XQ.out (b' := w1.heap.size) (j := 14) (by omega) (.slice Ao route.length co)) (.int .i64 kind)) (.int .i64 fs)) (.int .i64 fn)) (.int .i64 ts)) (.int .i64 tn)) (.int .i64 id)) (.int .i64 mn)) (.int .i64 fo)) (.int .i64 code)) (.string key)) (.slice Ar recs.length cr)) (.slice Av vec.length cv)) (.slice Ap path.length cp)) (.slice Ah hashes.length ch)) (.slice Ao route.length co))
  have EO := Lib.hid (((((((((((((((((Fr.wide (FP := (fun i => i = r ∨ i = w.heap.size ∨ i = w1.heap.size)) F2.out (.inl rfl)).more (b := w1.heap.size) (j := 14) (.inr (.inr rfl)) (.slice Ao route.length co)).more (b := w.heap.size) (j := 0) (.inr (.inl rfl)) (.int .i64 kind)).more (b := w.heap.size) (j := 1) (.inr (.inl rfl)) (.int .i64 fs)).more (b := w.heap.size) (j := 2) (.inr (.inl rfl)) (.int .i64 fn)).more (b := w.heap.size) (j := 3) (.inr (.inl rfl)) (.int .i64 ts)).more (b := w.heap.size) (j := 4) (.inr (.inl rfl)) (.int .i64 tn)).more (b := w.heap.size) (j := 5) (.inr (.inl rfl)) (.int .i64 id)).more (b := w.heap.size) (j := 6) (.inr (.inl rfl)) (.int .i64 mn)).more (b := w.heap.size) (j := 7) (.inr (.inl rfl)) (.int .i64 fo)).more (b := w.heap.size) (j := 8) (.inr (.inl rfl)) (.int .i64 code)).more (b := w.heap.size) (j := 9) (.inr (.inl rfl)) (.string key)).more (b := w.heap.size) (j := 10) (.inr (.inl rfl)) (.slice Ar recs.length cr)).more (b := w.heap.size) (j := 11) (.inr (.inl rfl)) (.slice Av vec.length cv)).more (b := w.heap.size) (j := 12) (.inr (.inl rfl)) (.slice Ap path.length cp)).more (b := w.heap.size) (j := 13) (.inr (.inl rfl)) (.slice Ah hashes.length ch)).more (b := w.heap.size) (j := 14) (.inr (.inl rfl)) (.slice Ao route.length co))
  have EN := Lib.hid (((((((((((((((((Fr.refl (fun i => i = r ∨ i = w.heap.size ∨ i = w1.heap.size) w13).more (b := w1.heap.size) (j := 14) (.inr (.inr rfl)) (.slice Ao route.length co)).more (b := w.heap.size) (j := 0) (.inr (.inl rfl)) (.int .i64 kind)).more (b := w.heap.size) (j := 1) (.inr (.inl rfl)) (.int .i64 fs)).more (b := w.heap.size) (j := 2) (.inr (.inl rfl)) (.int .i64 fn)).more (b := w.heap.size) (j := 3) (.inr (.inl rfl)) (.int .i64 ts)).more (b := w.heap.size) (j := 4) (.inr (.inl rfl)) (.int .i64 tn)).more (b := w.heap.size) (j := 5) (.inr (.inl rfl)) (.int .i64 id)).more (b := w.heap.size) (j := 6) (.inr (.inl rfl)) (.int .i64 mn)).more (b := w.heap.size) (j := 7) (.inr (.inl rfl)) (.int .i64 fo)).more (b := w.heap.size) (j := 8) (.inr (.inl rfl)) (.int .i64 code)).more (b := w.heap.size) (j := 9) (.inr (.inl rfl)) (.string key)).more (b := w.heap.size) (j := 10) (.inr (.inl rfl)) (.slice Ar recs.length cr)).more (b := w.heap.size) (j := 11) (.inr (.inl rfl)) (.slice Av vec.length cv)).more (b := w.heap.size) (j := 12) (.inr (.inl rfl)) (.slice Ap path.length cp)).more (b := w.heap.size) (j := 13) (.inr (.inl rfl)) (.slice Ah hashes.length ch)).more (b := w.heap.size) (j := 14) (.inr (.inl rfl)) (.slice Ao route.length co))
  have OR' := Lib.hid (OwnR.keepF OR.out EO.out (fun i hi => by rintro (e | e | e) <;> omega))
  have OV' := Lib.hid (own_keepF OV.out EO.out (fun i hi => by rintro (e | e | e) <;> omega))
  have OP' := Lib.hid (own_keepF OP.out EO.out (fun i hi => by rintro (e | e | e) <;> omega))
  have OH' := Lib.hid (own_keepF OH.out EO.out (fun i hi => by rintro (e | e | e) <;> omega))
  have OO' := Lib.hid (own_keepF hO EN.out (fun i hi => by rintro (e | e | e) <;> omega))
  clear EO EN hO F2
  have HM := Lib.hid (show MsgV w.heap.size ((((((((((((((((w13.setCell ⟨w1.heap.size, 14, none⟩ (.slice Ao route.length co)).setCell ⟨w.heap.size, 0, none⟩ (.int .i64 kind)).setCell ⟨w.heap.size, 1, none⟩ (.int .i64 fs)).setCell ⟨w.heap.size, 2, none⟩ (.int .i64 fn)).setCell ⟨w.heap.size, 3, none⟩ (.int .i64 ts)).setCell ⟨w.heap.size, 4, none⟩ (.int .i64 tn)).setCell ⟨w.heap.size, 5, none⟩ (.int .i64 id)).setCell ⟨w.heap.size, 6, none⟩ (.int .i64 mn)).setCell ⟨w.heap.size, 7, none⟩ (.int .i64 fo)).setCell ⟨w.heap.size, 8, none⟩ (.int .i64 code)).setCell ⟨w.heap.size, 9, none⟩ (.string key)).setCell ⟨w.heap.size, 10, none⟩ (.slice Ar recs.length cr)).setCell ⟨w.heap.size, 11, none⟩ (.slice Av vec.length cv)).setCell ⟨w.heap.size, 12, none⟩ (.slice Ap path.length cp)).setCell ⟨w.heap.size, 13, none⟩ (.slice Ah hashes.length ch)).setCell ⟨w.heap.size, 14, none⟩ (.slice Ao route.length co)) ⟨kind, fs, fn, ts, tn, id, mn, fo, code, key, recs, vec, path, hashes, route⟩ (.agg #[.int .i64 kind, .int .i64 fs, .int .i64 fn, .int .i64 ts, .int .i64 tn, .int .i64 id, .int .i64 mn, .int .i64 fo, .int .i64 code, .string key, .slice Ar recs.length cr, .slice Av vec.length cv, .slice Ap path.length cp, .slice Ah hashes.length ch, .slice Ao route.length co]) from ⟨⟨⟨kind, fs, fn, ts, tn, id, mn, fo, code, key, recs, vec, path, hashes, route⟩, Ar, recs.length, cr, Av, vec.length, cv, Ap, path.length, cp, Ah, hashes.length, ch, Ao, route.length, co⟩, rfl, rfl, ⟨⟨rows, hrows, OR'.out.lower (by omega)⟩, own_lower OV'.out (by omega), own_lower OP'.out (by omega), own_lower OH'.out (by omega), own_lower OO'.out (by omega), ⟨by simp only; omega, by simp only; omega, by simp only; omega, by simp only; omega, by simp only; omega⟩, by simp only; omega, by simp only; omega, by simp only; omega, HH.out⟩⟩)
  clear OR OR' OV OV' OP OP' OH OH' OO'
  have q0 := mcell (j := 0) XF.out rfl
  have q1 := mcell (j := 1) XF.out rfl
  have q2 := mcell (j := 2) XF.out rfl
  have q3 := mcell (j := 3) XF.out rfl
  have q4 := mcell (j := 4) XF.out rfl
  have q5 := mcell (j := 5) XF.out rfl
  have q6 := mcell (j := 6) XF.out rfl
  have q7 := mcell (j := 7) XF.out rfl
  have q8 := mcell (j := 8) XF.out rfl
  have q9 := mcell (j := 9) XF.out rfl
  have q10 := mcell (j := 10) XF.out rfl
  have q11 := mcell (j := 11) XF.out rfl
  have q12 := mcell (j := 12) XF.out rfl
  have q13 := mcell (j := 13) XF.out rfl
  have q14 := mcell (j := 14) XF.out rfl
  have HX := Lib.hid (And.intro q0 (And.intro q1 (And.intro q2 (And.intro q3 (And.intro q4 (And.intro q5 (And.intro q6 (And.intro q7 (And.intro q8 (And.intro q9 (And.intro q10 (And.intro q11 (And.intro q12 (And.intro q13 q14))))))))))))))
  clear q0 q1 q2 q3 q4 q5 q6 q7 q8 q9 q10 q11 q12 q13 q14 XF
  go_wp2
  obtain ⟨q0, q1, q2, q3, q4, q5, q6, q7, q8, q9, q10, q11, q12, q13, q14⟩ := HX.out
  refine bodyPost_ret (v := .agg #[.int .i64 kind, .int .i64 fs, .int .i64 fn, .int .i64 ts, .int .i64 tn, .int .i64 id, .int .i64 mn, .int .i64 fo, .int .i64 code, .string key, .slice Ar recs.length cr, .slice Av vec.length cv, .slice Ap path.length cp, .slice Ah hashes.length ch, .slice Ao route.length co]) ?_ rfl (GAns.yes HN.out HM.out RF.out FF.out)
  simp [results, Try.results55, go_sem, q0, q1, q2, q3, q4, q5, q6, q7, q8, q9, q10, q11, q12, q13, q14]
end Go.Proofs.Ytgnedaihchmoaaa
