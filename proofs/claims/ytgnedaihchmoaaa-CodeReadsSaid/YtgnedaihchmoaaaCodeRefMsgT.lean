/-
  firthref06.Msg: the end. (Printed by tools/refread2.py.)
-/
import Derived.Test.YtgnedaihchmoaaaCodeRefMsgK
import Derived.Deep.LoopGhost
namespace Go.Proofs.Ytgnedaihchmoaaa
open Go.RowKit
set_option linter.unusedVariables false

set_option maxHeartbeats 20000000 in
set_option maxRecDepth 100000 in
theorem rm_tail {w wb wE : World} {r g8 ni ci n c at0 ao : Nat} {bo : Bool} {A Ai : Option Addr} {L Li : List UInt8} {kind fs fn ts tn id mn fo code : Int} {key : ByteArray} {Ar : Option Addr} {nr cr : Nat} {recs : List Rc} {Av : Option Addr} {nv cv : Nat} {vec : List Int} {Ap : Option Addr} {np cp : Nat} {path : List Int} {Ah : Option Addr} {nh ch : Nat} {hashes : List Int} {Ao : Option Addr} {no co : Nat} {route : List Int} {Br Bv Bp Bh Bo : Nat} (hni : ni ≤ 1048576) (h12 : w.heap.size < r) (hlb : r < wb.heap.size) (hl2 : wb.heap.size ≤ g8) (hBr : g8 < Br) (hBv : g8 < Bv) (hBp : g8 < Bp) (hBh : g8 < Bh) (hBo : g8 < Bo)
    (hkr : nr ≤ ni) (hkv : nv ≤ ni) (hkp : np ≤ ni) (hkh : nh ≤ ni) (hko : no ≤ ni) (hkey : key.size ≤ 140737488351232) (hid : id < 9223372036854775808) (hmn : mn < 9223372036854775808)
    (HNX : Hid (nextF L 0 = .ok (Li, at0))) (HL : Hid (L.length = n)) (HLI : Hid (Li.length = ni)) (HGo2 : Hid (QG (gMsg okQ Li 0) bo (some ((⟨kind, fs, fn, ts, tn, id, mn, fo, code, key, recs, vec, path, hashes, route⟩ : Mg), ao)))) (HMo2 : Hid (MSt wb wE r w.heap.size g8 Ai ni ci Li ao bo (.int .i64 kind) (.int .i64 fs) (.int .i64 fn) (.int .i64 ts) (.int .i64 tn) (.int .i64 id) (.int .i64 mn) (.int .i64 fo) (.int .i64 code) (.string key) (.slice Ar nr cr) (.slice Av nv cv) (.slice Ap np cp) (.slice Ah nh ch) (.slice Ao no co))) (HOr : Hid (OwnRs wE Br (.slice Ar nr cr) nr recs)) (HOv : Hid (World.ownsRow wE Bv 2 1 (.slice Av nv cv) nv (vec.map (Value.int .i64)))) (HOp : Hid (World.ownsRow wE Bp 3 1 (.slice Ap np cp) np (path.map (Value.int .i64)))) (HOh : Hid (World.ownsRow wE Bh 86 1 (.slice Ah nh ch) nh (hashes.map (Value.int .u64)))) (HOo : Hid (World.ownsRow wE Bo 3 1 (.slice Ao no co) no (route.map (Value.int .i64))))
    (HHS : Hid (∀ y ∈ hashes, 0 ≤ y ∧ y < 18446744073709551616)) (HBB : Hid (Below w.heap.size w wb)) (y1 y3 y6 y9 y10 y11 y12 y13 y14 y15 y16 y17 y18 y19 y20 y21 y22 y23 y24 y25 y26 y27 y28 y29 y30 y31 y32 y33 y34 y35 y36 y37 y38 y39 y40 y41 y42 y43 y44 y45 y46 y47 y48 y49 y50 y51 y52 y53 y54 y55 y56 y57 y58 y59 y60 y61 y62 y63 y64 y65 y66 y67 y68 y69 y70 y71 y72 y73 y74 y75 y76 y77 y78 y79 y80 y81 y82 y83 y84 y85 y86 y87 y88 y89 y90 y91 y92 y93 y94 y95 y96 y97 y98 y99 y100 y101 y102 y103 y104 y105 y106 y107 y108 y109 y110 y111 y112 y113 y114 y115 y116 y117 y118 y119 y120 y121 y122 y123 y124 y125 y126 y127 y128 y129 y130 y131 y132 y133 y134 y135 y136 y137 y138 y139 y140 y141 y142 y143 y144 y145 y146 y147 y148 y149 y150 y151 y152 y153 y154 y155 y156 y157 y158 y159 y160 y161 y162 y163 y164 y165 y166 y167 y168 y169 y170 y171 y172 y173 y174 y175 y176 y177 y178 y179 y180 y181 y182 y183 y184 y185 y186 y187 y188 y189 y190 y191 y192 y193 y194 y195 y196 y197 y198 y199 y200 y201 : Value) :
    Code.wp Try.prog rmTail (bodyPost Try.prog Try.f16 (MsgAns w (msgRd L).1 (msgRd L).2)) ⟨#[.slice A n c, y1, .pointer (some ⟨w.heap.size, 0, none⟩), y3, .slice Ai ni ci, .int .i64 (at0 : Int), y6, .pointer (some ⟨r, 0, none⟩), .pointer (some ⟨g8, 0, none⟩), y9, y10, y11, y12, y13, y14, y15, y16, y17, y18, y19, y20, y21, y22, y23, y24, y25, y26, y27, y28, y29, y30, y31, y32, y33, y34, y35, y36, y37, y38, y39, y40, y41, y42, y43, y44, y45, y46, y47, y48, y49, y50, y51, y52, y53, y54, y55, y56, y57, y58, y59, y60, y61, y62, y63, y64, y65, y66, y67, y68, y69, y70, y71, y72, y73, y74, y75, y76, y77, y78, y79, y80, y81, y82, y83, y84, y85, y86, y87, y88, y89, y90, y91, y92, y93, y94, y95, y96, y97, y98, y99, y100, y101, y102, y103, y104, y105, y106, y107, y108, y109, y110, y111, y112, y113, y114, y115, y116, y117, y118, y119, y120, y121, y122, y123, y124, y125, y126, y127, y128, y129, y130, y131, y132, y133, y134, y135, y136, y137, y138, y139, y140, y141, y142, y143, y144, y145, y146, y147, y148, y149, y150, y151, y152, y153, y154, y155, y156, y157, y158, y159, y160, y161, y162, y163, y164, y165, y166, y167, y168, y169, y170, y171, y172, y173, y174, y175, y176, y177, y178, y179, y180, y181, y182, y183, y184, y185, y186, y187, y188, y189, y190, y191, y192, y193, y194, y195, y196, y197, y198, y199, y200, y201], []⟩ wE := by
  conv in rmTail => whnf
  have cr1 := HMo2.out.st.c1
  have cr2 := HMo2.out.st.c2
  have HBE := Lib.hid (HBB.out.trans (HMo2.out.fr.below (B := w.heap.size) (fun i hi => by have e2 : i = r := hi; omega) HBB.out.size))
  have XE := Lib.hid HMo2.out.b2
  have YE := Lib.hid HMo2.out.b8
  have HOM := Lib.hid (show OwnM _ g8 (⟨⟨kind, fs, fn, ts, tn, id, mn, fo, code, key, recs, vec, path, hashes, route⟩, Ar, nr, cr, Av, nv, cv, Ap, np, cp, Ah, nh, ch, Ao, no, co⟩ : Mx) from
    ⟨by obtain ⟨rows, h1, h2⟩ := HOr.out; exact ⟨rows, h1, h2.lower (by omega)⟩, own_lower HOv.out (by omega), own_lower HOp.out (by omega), own_lower HOh.out (by omega), own_lower HOo.out (by omega),
      ⟨by simp only; omega, by simp only; omega, by simp only; omega, by simp only; omega, by simp only; omega⟩, hkey, by simp only; omega, by simp only; omega, HHS.out⟩)
  clear HMo2 HOr HOv HOp HOh HOo HHS HBB
  cases bo with
  | true =>
    have HN := Lib.hid (msgRd_bad HNX.out (msgR_no1 (HGo2.out.2 rfl)))
    have XZ := XE
    have HZ := HBE
    have x0 := mcell (j := 0) XZ.out rfl
    have z0 := frozen_of_row _ _ 0 _ _ XZ.out
    have x1 := mcell (j := 1) XZ.out rfl
    have z1 := frozen_of_row _ _ 1 _ _ XZ.out
    have x2 := mcell (j := 2) XZ.out rfl
    have z2 := frozen_of_row _ _ 2 _ _ XZ.out
    have x3 := mcell (j := 3) XZ.out rfl
    have z3 := frozen_of_row _ _ 3 _ _ XZ.out
    have x4 := mcell (j := 4) XZ.out rfl
    have z4 := frozen_of_row _ _ 4 _ _ XZ.out
    have x5 := mcell (j := 5) XZ.out rfl
    have z5 := frozen_of_row _ _ 5 _ _ XZ.out
    have x6 := mcell (j := 6) XZ.out rfl
    have z6 := frozen_of_row _ _ 6 _ _ XZ.out
    have x7 := mcell (j := 7) XZ.out rfl
    have z7 := frozen_of_row _ _ 7 _ _ XZ.out
    have x8 := mcell (j := 8) XZ.out rfl
    have z8 := frozen_of_row _ _ 8 _ _ XZ.out
    have x9 := mcell (j := 9) XZ.out rfl
    have z9 := frozen_of_row _ _ 9 _ _ XZ.out
    have x10 := mcell (j := 10) XZ.out rfl
    have z10 := frozen_of_row _ _ 10 _ _ XZ.out
    have x11 := mcell (j := 11) XZ.out rfl
    have z11 := frozen_of_row _ _ 11 _ _ XZ.out
    have x12 := mcell (j := 12) XZ.out rfl
    have z12 := frozen_of_row _ _ 12 _ _ XZ.out
    have x13 := mcell (j := 13) XZ.out rfl
    have z13 := frozen_of_row _ _ 13 _ _ XZ.out
    have x14 := mcell (j := 14) XZ.out rfl
    have z14 := frozen_of_row _ _ 14 _ _ XZ.out
    have k1 := (MBox.set14 (MBox.set13 (MBox.set12 (MBox.set11 (MBox.set10 (MBox.set9 (MBox.set8 (MBox.set7 (MBox.set6 (MBox.set5 (MBox.set4 (MBox.set3 (MBox.set2 (MBox.set1 (MBox.set0 XZ.out (.int .i64 0)) (.int .i64 0)) (.int .i64 0)) (.int .i64 0)) (.int .i64 0)) (.int .i64 0)) (.int .i64 0)) (.int .i64 0)) (.int .i64 0)) (.string ⟨#[]⟩)) (.slice none 0 0)) (.slice none 0 0)) (.slice none 0 0)) (.slice none 0 0)) (.slice none 0 0))
    have q0 := mcell (j := 0) k1 rfl
    have q1 := mcell (j := 1) k1 rfl
    have q2 := mcell (j := 2) k1 rfl
    have q3 := mcell (j := 3) k1 rfl
    have q4 := mcell (j := 4) k1 rfl
    have q5 := mcell (j := 5) k1 rfl
    have q6 := mcell (j := 6) k1 rfl
    have q7 := mcell (j := 7) k1 rfl
    have q8 := mcell (j := 8) k1 rfl
    have q9 := mcell (j := 9) k1 rfl
    have q10 := mcell (j := 10) k1 rfl
    have q11 := mcell (j := 11) k1 rfl
    have q12 := mcell (j := 12) k1 rfl
    have q13 := mcell (j := 13) k1 rfl
    have q14 := mcell (j := 14) k1 rfl
    have HE := Lib.hid (show MsgAns w (msgRd L).1 (msgRd L).2 (.returned (.tuple #[.agg #[.int .i64 0, .int .i64 0, .int .i64 0, .int .i64 0, .int .i64 0, .int .i64 0, .int .i64 0, .int .i64 0, .int .i64 0, .string ⟨#[]⟩, .slice none 0 0, .slice none 0 0, .slice none 0 0, .slice none 0 0, .slice none 0 0], .int .i64 2])) _ from by rw [HN.out]; exact MsgAns.no rfl (((((((((((((((HZ.out.setCell (p := ⟨w.heap.size, 0, none⟩) (Nat.le_refl _) (.int .i64 0)).setCell (p := ⟨w.heap.size, 1, none⟩) (Nat.le_refl _) (.int .i64 0)).setCell (p := ⟨w.heap.size, 2, none⟩) (Nat.le_refl _) (.int .i64 0)).setCell (p := ⟨w.heap.size, 3, none⟩) (Nat.le_refl _) (.int .i64 0)).setCell (p := ⟨w.heap.size, 4, none⟩) (Nat.le_refl _) (.int .i64 0)).setCell (p := ⟨w.heap.size, 5, none⟩) (Nat.le_refl _) (.int .i64 0)).setCell (p := ⟨w.heap.size, 6, none⟩) (Nat.le_refl _) (.int .i64 0)).setCell (p := ⟨w.heap.size, 7, none⟩) (Nat.le_refl _) (.int .i64 0)).setCell (p := ⟨w.heap.size, 8, none⟩) (Nat.le_refl _) (.int .i64 0)).setCell (p := ⟨w.heap.size, 9, none⟩) (Nat.le_refl _) (.string ⟨#[]⟩)).setCell (p := ⟨w.heap.size, 10, none⟩) (Nat.le_refl _) (.slice none 0 0)).setCell (p := ⟨w.heap.size, 11, none⟩) (Nat.le_refl _) (.slice none 0 0)).setCell (p := ⟨w.heap.size, 12, none⟩) (Nat.le_refl _) (.slice none 0 0)).setCell (p := ⟨w.heap.size, 13, none⟩) (Nat.le_refl _) (.slice none 0 0)).setCell (p := ⟨w.heap.size, 14, none⟩) (Nat.le_refl _) (.slice none 0 0)))
    have HQ := Lib.hid (And.intro q0 (And.intro q1 (And.intro q2 (And.intro q3 (And.intro q4 (And.intro q5 (And.intro q6 (And.intro q7 (And.intro q8 (And.intro q9 (And.intro q10 (And.intro q11 (And.intro q12 (And.intro q13 (q14)))))))))))))))
    clear k1 q0 q1 q2 q3 q4 q5 q6 q7 q8 q9 q10 q11 q12 q13 q14
    go_wp2
    obtain ⟨q0, q1, q2, q3, q4, q5, q6, q7, q8, q9, q10, q11, q12, q13, q14⟩ := HQ.out
    refine bodyPost_ret (v := .tuple #[.agg #[.int .i64 0, .int .i64 0, .int .i64 0, .int .i64 0, .int .i64 0, .int .i64 0, .int .i64 0, .int .i64 0, .int .i64 0, .string ⟨#[]⟩, .slice none 0 0, .slice none 0 0, .slice none 0 0, .slice none 0 0, .slice none 0 0], .int .i64 2]) ?_ rfl HE.out
    simp [results, Try.results16, go_sem, q0, q1, q2, q3, q4, q5, q6, q7, q8, q9, q10, q11, q12, q13, q14]
  | false =>
    have HT := Lib.hid (HGo2.out.1 rfl)
    by_cases ha : ao = ni
    · have t1 : ((ao : Int) != (ni : Int)) = false := by rw [ha]; simp
      have t2 : ((ao : Int) == (ni : Int)) = true := by rw [ha]; simp
      have HAA := Lib.hid ha
      clear ha
      by_cases hat : at0 = n
      · have t3 : ((at0 : Int) != (n : Int)) = false := by rw [hat]; simp
        have t4 : ((at0 : Int) == (n : Int)) = true := by rw [hat]; simp
        have HAT := Lib.hid hat
        have c2 := refRightMsg_any (⟨⟨kind, fs, fn, ts, tn, id, mn, fo, code, key, recs, vec, path, hashes, route⟩, Ar, nr, cr, Av, nv, cv, Ap, np, cp, Ah, nh, ch, Ao, no, co⟩ : Mx) _ HOM.out.row
        simp only [Mx.cells] at c2
        have p0 := mcell (j := 0) YE.out rfl
        have p1 := mcell (j := 1) YE.out rfl
        have p2 := mcell (j := 2) YE.out rfl
        have p3 := mcell (j := 3) YE.out rfl
        have p4 := mcell (j := 4) YE.out rfl
        have p5 := mcell (j := 5) YE.out rfl
        have p6 := mcell (j := 6) YE.out rfl
        have p7 := mcell (j := 7) YE.out rfl
        have p8 := mcell (j := 8) YE.out rfl
        have p9 := mcell (j := 9) YE.out rfl
        have p10 := mcell (j := 10) YE.out rfl
        have p11 := mcell (j := 11) YE.out rfl
        have p12 := mcell (j := 12) YE.out rfl
        have p13 := mcell (j := 13) YE.out rfl
        have p14 := mcell (j := 14) YE.out rfl
        clear hat
        cases hr : rightM ⟨kind, fs, fn, ts, tn, id, mn, fo, code, key, recs, vec, path, hashes, route⟩
        · rw [hr] at c2
          have C2 := Lib.hid c2
          have HN := Lib.hid (msgRd_bad HNX.out (msgR_no2 HT.out (fun h => by rw [hr] at h; cases h.2)))
          clear c2 hr
          go_wp2_with fail
          refine C2.out.mono ?_
          rintro e w9 ⟨rfl, b9⟩
          have XZ := Lib.hid (show MBox w9 w.heap.size (.int .i64 0) (.int .i64 0) (.int .i64 0) (.int .i64 0) (.int .i64 0) (.int .i64 0) (.int .i64 0) (.int .i64 0) (.int .i64 0) (.string ⟨#[]⟩) (.slice none 0 0) (.slice none 0 0) (.slice none 0 0) (.slice none 0 0) (.slice none 0 0) from (b9.block _ (lt_of_block XE.out)).trans XE.out)
          have HZ := Lib.hid (HBE.out.trans (b9.mono HBE.out.size))
          clear b9 C2 cr1 cr2 p0 p1 p2 p3 p4 p5 p6 p7 p8 p9 p10 p11 p12 p13 p14
          have x0 := mcell (j := 0) XZ.out rfl
          have z0 := frozen_of_row _ _ 0 _ _ XZ.out
          have x1 := mcell (j := 1) XZ.out rfl
          have z1 := frozen_of_row _ _ 1 _ _ XZ.out
          have x2 := mcell (j := 2) XZ.out rfl
          have z2 := frozen_of_row _ _ 2 _ _ XZ.out
          have x3 := mcell (j := 3) XZ.out rfl
          have z3 := frozen_of_row _ _ 3 _ _ XZ.out
          have x4 := mcell (j := 4) XZ.out rfl
          have z4 := frozen_of_row _ _ 4 _ _ XZ.out
          have x5 := mcell (j := 5) XZ.out rfl
          have z5 := frozen_of_row _ _ 5 _ _ XZ.out
          have x6 := mcell (j := 6) XZ.out rfl
          have z6 := frozen_of_row _ _ 6 _ _ XZ.out
          have x7 := mcell (j := 7) XZ.out rfl
          have z7 := frozen_of_row _ _ 7 _ _ XZ.out
          have x8 := mcell (j := 8) XZ.out rfl
          have z8 := frozen_of_row _ _ 8 _ _ XZ.out
          have x9 := mcell (j := 9) XZ.out rfl
          have z9 := frozen_of_row _ _ 9 _ _ XZ.out
          have x10 := mcell (j := 10) XZ.out rfl
          have z10 := frozen_of_row _ _ 10 _ _ XZ.out
          have x11 := mcell (j := 11) XZ.out rfl
          have z11 := frozen_of_row _ _ 11 _ _ XZ.out
          have x12 := mcell (j := 12) XZ.out rfl
          have z12 := frozen_of_row _ _ 12 _ _ XZ.out
          have x13 := mcell (j := 13) XZ.out rfl
          have z13 := frozen_of_row _ _ 13 _ _ XZ.out
          have x14 := mcell (j := 14) XZ.out rfl
          have z14 := frozen_of_row _ _ 14 _ _ XZ.out
          have k1 := (MBox.set14 (MBox.set13 (MBox.set12 (MBox.set11 (MBox.set10 (MBox.set9 (MBox.set8 (MBox.set7 (MBox.set6 (MBox.set5 (MBox.set4 (MBox.set3 (MBox.set2 (MBox.set1 (MBox.set0 XZ.out (.int .i64 0)) (.int .i64 0)) (.int .i64 0)) (.int .i64 0)) (.int .i64 0)) (.int .i64 0)) (.int .i64 0)) (.int .i64 0)) (.int .i64 0)) (.string ⟨#[]⟩)) (.slice none 0 0)) (.slice none 0 0)) (.slice none 0 0)) (.slice none 0 0)) (.slice none 0 0))
          have q0 := mcell (j := 0) k1 rfl
          have q1 := mcell (j := 1) k1 rfl
          have q2 := mcell (j := 2) k1 rfl
          have q3 := mcell (j := 3) k1 rfl
          have q4 := mcell (j := 4) k1 rfl
          have q5 := mcell (j := 5) k1 rfl
          have q6 := mcell (j := 6) k1 rfl
          have q7 := mcell (j := 7) k1 rfl
          have q8 := mcell (j := 8) k1 rfl
          have q9 := mcell (j := 9) k1 rfl
          have q10 := mcell (j := 10) k1 rfl
          have q11 := mcell (j := 11) k1 rfl
          have q12 := mcell (j := 12) k1 rfl
          have q13 := mcell (j := 13) k1 rfl
          have q14 := mcell (j := 14) k1 rfl
          have HE := Lib.hid (show MsgAns w (msgRd L).1 (msgRd L).2 (.returned (.tuple #[.agg #[.int .i64 0, .int .i64 0, .int .i64 0, .int .i64 0, .int .i64 0, .int .i64 0, .int .i64 0, .int .i64 0, .int .i64 0, .string ⟨#[]⟩, .slice none 0 0, .slice none 0 0, .slice none 0 0, .slice none 0 0, .slice none 0 0], .int .i64 2])) _ from by rw [HN.out]; exact MsgAns.no rfl (((((((((((((((HZ.out.setCell (p := ⟨w.heap.size, 0, none⟩) (Nat.le_refl _) (.int .i64 0)).setCell (p := ⟨w.heap.size, 1, none⟩) (Nat.le_refl _) (.int .i64 0)).setCell (p := ⟨w.heap.size, 2, none⟩) (Nat.le_refl _) (.int .i64 0)).setCell (p := ⟨w.heap.size, 3, none⟩) (Nat.le_refl _) (.int .i64 0)).setCell (p := ⟨w.heap.size, 4, none⟩) (Nat.le_refl _) (.int .i64 0)).setCell (p := ⟨w.heap.size, 5, none⟩) (Nat.le_refl _) (.int .i64 0)).setCell (p := ⟨w.heap.size, 6, none⟩) (Nat.le_refl _) (.int .i64 0)).setCell (p := ⟨w.heap.size, 7, none⟩) (Nat.le_refl _) (.int .i64 0)).setCell (p := ⟨w.heap.size, 8, none⟩) (Nat.le_refl _) (.int .i64 0)).setCell (p := ⟨w.heap.size, 9, none⟩) (Nat.le_refl _) (.string ⟨#[]⟩)).setCell (p := ⟨w.heap.size, 10, none⟩) (Nat.le_refl _) (.slice none 0 0)).setCell (p := ⟨w.heap.size, 11, none⟩) (Nat.le_refl _) (.slice none 0 0)).setCell (p := ⟨w.heap.size, 12, none⟩) (Nat.le_refl _) (.slice none 0 0)).setCell (p := ⟨w.heap.size, 13, none⟩) (Nat.le_refl _) (.slice none 0 0)).setCell (p := ⟨w.heap.size, 14, none⟩) (Nat.le_refl _) (.slice none 0 0)))
          have HQ := Lib.hid (And.intro q0 (And.intro q1 (And.intro q2 (And.intro q3 (And.intro q4 (And.intro q5 (And.intro q6 (And.intro q7 (And.intro q8 (And.intro q9 (And.intro q10 (And.intro q11 (And.intro q12 (And.intro q13 (q14)))))))))))))))
          clear k1 q0 q1 q2 q3 q4 q5 q6 q7 q8 q9 q10 q11 q12 q13 q14
          go_wp2
          obtain ⟨q0, q1, q2, q3, q4, q5, q6, q7, q8, q9, q10, q11, q12, q13, q14⟩ := HQ.out
          refine bodyPost_ret (v := .tuple #[.agg #[.int .i64 0, .int .i64 0, .int .i64 0, .int .i64 0, .int .i64 0, .int .i64 0, .int .i64 0, .int .i64 0, .int .i64 0, .string ⟨#[]⟩, .slice none 0 0, .slice none 0 0, .slice none 0 0, .slice none 0 0, .slice none 0 0], .int .i64 2]) ?_ rfl HE.out
          simp [results, Try.results16, go_sem, q0, q1, q2, q3, q4, q5, q6, q7, q8, q9, q10, q11, q12, q13, q14]
        · rw [hr] at c2
          have C2 := Lib.hid c2
          have HN := Lib.hid (msgRd_good HNX.out (HAT.out.trans HL.out.symm) (msgR_yes HT.out ⟨HAA.out.trans HLI.out.symm, hr⟩))
          clear c2 hr
          go_wp2_with fail
          refine C2.out.mono ?_
          rintro e w9 ⟨rfl, b9⟩
          have XZ := Lib.hid (show MBox w9 w.heap.size (.int .i64 0) (.int .i64 0) (.int .i64 0) (.int .i64 0) (.int .i64 0) (.int .i64 0) (.int .i64 0) (.int .i64 0) (.int .i64 0) (.string ⟨#[]⟩) (.slice none 0 0) (.slice none 0 0) (.slice none 0 0) (.slice none 0 0) (.slice none 0 0) from (b9.block _ (lt_of_block XE.out)).trans XE.out)
          have YZ := Lib.hid (show MBox w9 g8 (.int .i64 kind) (.int .i64 fs) (.int .i64 fn) (.int .i64 ts) (.int .i64 tn) (.int .i64 id) (.int .i64 mn) (.int .i64 fo) (.int .i64 code) (.string key) (.slice Ar nr cr) (.slice Av nv cv) (.slice Ap np cp) (.slice Ah nh ch) (.slice Ao no co) from (b9.block _ (lt_of_block YE.out)).trans YE.out)
          have HZ := Lib.hid (HBE.out.trans (b9.mono HBE.out.size))
          have OE9 := Lib.hid (HOM.out.below b9)
          clear b9 C2 cr1 cr2 p0 p1 p2 p3 p4 p5 p6 p7 p8 p9 p10 p11 p12 p13 p14
          have x0 := mcell (j := 0) XZ.out rfl
          have z0 := frozen_of_row _ _ 0 _ _ XZ.out
          have y0 := mcell (j := 0) YZ.out rfl
          have x1 := mcell (j := 1) XZ.out rfl
          have z1 := frozen_of_row _ _ 1 _ _ XZ.out
          have y1 := mcell (j := 1) YZ.out rfl
          have x2 := mcell (j := 2) XZ.out rfl
          have z2 := frozen_of_row _ _ 2 _ _ XZ.out
          have y2 := mcell (j := 2) YZ.out rfl
          have x3 := mcell (j := 3) XZ.out rfl
          have z3 := frozen_of_row _ _ 3 _ _ XZ.out
          have y3 := mcell (j := 3) YZ.out rfl
          have x4 := mcell (j := 4) XZ.out rfl
          have z4 := frozen_of_row _ _ 4 _ _ XZ.out
          have y4 := mcell (j := 4) YZ.out rfl
          have x5 := mcell (j := 5) XZ.out rfl
          have z5 := frozen_of_row _ _ 5 _ _ XZ.out
          have y5 := mcell (j := 5) YZ.out rfl
          have x6 := mcell (j := 6) XZ.out rfl
          have z6 := frozen_of_row _ _ 6 _ _ XZ.out
          have y6 := mcell (j := 6) YZ.out rfl
          have x7 := mcell (j := 7) XZ.out rfl
          have z7 := frozen_of_row _ _ 7 _ _ XZ.out
          have y7 := mcell (j := 7) YZ.out rfl
          have x8 := mcell (j := 8) XZ.out rfl
          have z8 := frozen_of_row _ _ 8 _ _ XZ.out
          have y8 := mcell (j := 8) YZ.out rfl
          have x9 := mcell (j := 9) XZ.out rfl
          have z9 := frozen_of_row _ _ 9 _ _ XZ.out
          have y9 := mcell (j := 9) YZ.out rfl
          have x10 := mcell (j := 10) XZ.out rfl
          have z10 := frozen_of_row _ _ 10 _ _ XZ.out
          have y10 := mcell (j := 10) YZ.out rfl
          have x11 := mcell (j := 11) XZ.out rfl
          have z11 := frozen_of_row _ _ 11 _ _ XZ.out
          have y11 := mcell (j := 11) YZ.out rfl
          have x12 := mcell (j := 12) XZ.out rfl
          have z12 := frozen_of_row _ _ 12 _ _ XZ.out
          have y12 := mcell (j := 12) YZ.out rfl
          have x13 := mcell (j := 13) XZ.out rfl
          have z13 := frozen_of_row _ _ 13 _ _ XZ.out
          have y13 := mcell (j := 13) YZ.out rfl
          have x14 := mcell (j := 14) XZ.out rfl
          have z14 := frozen_of_row _ _ 14 _ _ XZ.out
          have y14 := mcell (j := 14) YZ.out rfl
          have k1 := (MBox.set14 (MBox.set13 (MBox.set12 (MBox.set11 (MBox.set10 (MBox.set9 (MBox.set8 (MBox.set7 (MBox.set6 (MBox.set5 (MBox.set4 (MBox.set3 (MBox.set2 (MBox.set1 (MBox.set0 XZ.out (.int .i64 kind)) (.int .i64 fs)) (.int .i64 fn)) (.int .i64 ts)) (.int .i64 tn)) (.int .i64 id)) (.int .i64 mn)) (.int .i64 fo)) (.int .i64 code)) (.string key)) (.slice Ar nr cr)) (.slice Av nv cv)) (.slice Ap np cp)) (.slice Ah nh ch)) (.slice Ao no co))
          have q0 := mcell (j := 0) k1 rfl
          have q1 := mcell (j := 1) k1 rfl
          have q2 := mcell (j := 2) k1 rfl
          have q3 := mcell (j := 3) k1 rfl
          have q4 := mcell (j := 4) k1 rfl
          have q5 := mcell (j := 5) k1 rfl
          have q6 := mcell (j := 6) k1 rfl
          have q7 := mcell (j := 7) k1 rfl
          have q8 := mcell (j := 8) k1 rfl
          have q9 := mcell (j := 9) k1 rfl
          have q10 := mcell (j := 10) k1 rfl
          have q11 := mcell (j := 11) k1 rfl
          have q12 := mcell (j := 12) k1 rfl
          have q13 := mcell (j := 13) k1 rfl
          have q14 := mcell (j := 14) k1 rfl
          have OE := (OE9.out.keepF ((((((((((((((((Fr.refl (fun i => i = w.heap.size) w9).more (b := w.heap.size) (j := 0) rfl (.int .i64 kind)).more (b := w.heap.size) (j := 1) rfl (.int .i64 fs)).more (b := w.heap.size) (j := 2) rfl (.int .i64 fn)).more (b := w.heap.size) (j := 3) rfl (.int .i64 ts)).more (b := w.heap.size) (j := 4) rfl (.int .i64 tn)).more (b := w.heap.size) (j := 5) rfl (.int .i64 id)).more (b := w.heap.size) (j := 6) rfl (.int .i64 mn)).more (b := w.heap.size) (j := 7) rfl (.int .i64 fo)).more (b := w.heap.size) (j := 8) rfl (.int .i64 code)).more (b := w.heap.size) (j := 9) rfl (.string key)).more (b := w.heap.size) (j := 10) rfl (.slice Ar nr cr)).more (b := w.heap.size) (j := 11) rfl (.slice Av nv cv)).more (b := w.heap.size) (j := 12) rfl (.slice Ap np cp)).more (b := w.heap.size) (j := 13) rfl (.slice Ah nh ch)).more (b := w.heap.size) (j := 14) rfl (.slice Ao no co)) (fun i hi e => by have e2 : i = w.heap.size := e; omega)).lower (show w.heap.size ≤ g8 by omega)
          have HE := Lib.hid (show MsgAns w (msgRd L).1 (msgRd L).2 (.returned (.tuple #[.agg #[.int .i64 kind, .int .i64 fs, .int .i64 fn, .int .i64 ts, .int .i64 tn, .int .i64 id, .int .i64 mn, .int .i64 fo, .int .i64 code, .string key, .slice Ar nr cr, .slice Av nv cv, .slice Ap np cp, .slice Ah nh ch, .slice Ao no co], .int .i64 0])) _ from by rw [HN.out]; exact MsgAns.yes (x := 0) rfl ⟨(⟨⟨kind, fs, fn, ts, tn, id, mn, fo, code, key, recs, vec, path, hashes, route⟩, Ar, nr, cr, Av, nv, cv, Ap, np, cp, Ah, nh, ch, Ao, no, co⟩ : Mx), rfl, rfl, OE⟩ (((((((((((((((HZ.out.setCell (p := ⟨w.heap.size, 0, none⟩) (Nat.le_refl _) (.int .i64 kind)).setCell (p := ⟨w.heap.size, 1, none⟩) (Nat.le_refl _) (.int .i64 fs)).setCell (p := ⟨w.heap.size, 2, none⟩) (Nat.le_refl _) (.int .i64 fn)).setCell (p := ⟨w.heap.size, 3, none⟩) (Nat.le_refl _) (.int .i64 ts)).setCell (p := ⟨w.heap.size, 4, none⟩) (Nat.le_refl _) (.int .i64 tn)).setCell (p := ⟨w.heap.size, 5, none⟩) (Nat.le_refl _) (.int .i64 id)).setCell (p := ⟨w.heap.size, 6, none⟩) (Nat.le_refl _) (.int .i64 mn)).setCell (p := ⟨w.heap.size, 7, none⟩) (Nat.le_refl _) (.int .i64 fo)).setCell (p := ⟨w.heap.size, 8, none⟩) (Nat.le_refl _) (.int .i64 code)).setCell (p := ⟨w.heap.size, 9, none⟩) (Nat.le_refl _) (.string key)).setCell (p := ⟨w.heap.size, 10, none⟩) (Nat.le_refl _) (.slice Ar nr cr)).setCell (p := ⟨w.heap.size, 11, none⟩) (Nat.le_refl _) (.slice Av nv cv)).setCell (p := ⟨w.heap.size, 12, none⟩) (Nat.le_refl _) (.slice Ap np cp)).setCell (p := ⟨w.heap.size, 13, none⟩) (Nat.le_refl _) (.slice Ah nh ch)).setCell (p := ⟨w.heap.size, 14, none⟩) (Nat.le_refl _) (.slice Ao no co)))
          have HQ := Lib.hid (And.intro q0 (And.intro q1 (And.intro q2 (And.intro q3 (And.intro q4 (And.intro q5 (And.intro q6 (And.intro q7 (And.intro q8 (And.intro q9 (And.intro q10 (And.intro q11 (And.intro q12 (And.intro q13 (q14)))))))))))))))
          clear k1 OE OE9 q0 q1 q2 q3 q4 q5 q6 q7 q8 q9 q10 q11 q12 q13 q14
          go_wp2
          obtain ⟨q0, q1, q2, q3, q4, q5, q6, q7, q8, q9, q10, q11, q12, q13, q14⟩ := HQ.out
          refine bodyPost_ret (v := .tuple #[.agg #[.int .i64 kind, .int .i64 fs, .int .i64 fn, .int .i64 ts, .int .i64 tn, .int .i64 id, .int .i64 mn, .int .i64 fo, .int .i64 code, .string key, .slice Ar nr cr, .slice Av nv cv, .slice Ap np cp, .slice Ah nh ch, .slice Ao no co], .int .i64 0]) ?_ rfl HE.out
          simp [results, Try.results16, go_sem, q0, q1, q2, q3, q4, q5, q6, q7, q8, q9, q10, q11, q12, q13, q14]
      · have t3 : ((at0 : Int) != (n : Int)) = true := by rw [bne_iff_ne]; omega
        have t4 : ((at0 : Int) == (n : Int)) = false := by rw [beq_eq_false_iff_ne]; omega
        have HN := Lib.hid (msgRd_far HNX.out (fun h => hat (h.trans HL.out)))
        clear hat
        have XZ := XE
        have HZ := HBE
        have x0 := mcell (j := 0) XZ.out rfl
        have z0 := frozen_of_row _ _ 0 _ _ XZ.out
        have x1 := mcell (j := 1) XZ.out rfl
        have z1 := frozen_of_row _ _ 1 _ _ XZ.out
        have x2 := mcell (j := 2) XZ.out rfl
        have z2 := frozen_of_row _ _ 2 _ _ XZ.out
        have x3 := mcell (j := 3) XZ.out rfl
        have z3 := frozen_of_row _ _ 3 _ _ XZ.out
        have x4 := mcell (j := 4) XZ.out rfl
        have z4 := frozen_of_row _ _ 4 _ _ XZ.out
        have x5 := mcell (j := 5) XZ.out rfl
        have z5 := frozen_of_row _ _ 5 _ _ XZ.out
        have x6 := mcell (j := 6) XZ.out rfl
        have z6 := frozen_of_row _ _ 6 _ _ XZ.out
        have x7 := mcell (j := 7) XZ.out rfl
        have z7 := frozen_of_row _ _ 7 _ _ XZ.out
        have x8 := mcell (j := 8) XZ.out rfl
        have z8 := frozen_of_row _ _ 8 _ _ XZ.out
        have x9 := mcell (j := 9) XZ.out rfl
        have z9 := frozen_of_row _ _ 9 _ _ XZ.out
        have x10 := mcell (j := 10) XZ.out rfl
        have z10 := frozen_of_row _ _ 10 _ _ XZ.out
        have x11 := mcell (j := 11) XZ.out rfl
        have z11 := frozen_of_row _ _ 11 _ _ XZ.out
        have x12 := mcell (j := 12) XZ.out rfl
        have z12 := frozen_of_row _ _ 12 _ _ XZ.out
        have x13 := mcell (j := 13) XZ.out rfl
        have z13 := frozen_of_row _ _ 13 _ _ XZ.out
        have x14 := mcell (j := 14) XZ.out rfl
        have z14 := frozen_of_row _ _ 14 _ _ XZ.out
        have k1 := (MBox.set14 (MBox.set13 (MBox.set12 (MBox.set11 (MBox.set10 (MBox.set9 (MBox.set8 (MBox.set7 (MBox.set6 (MBox.set5 (MBox.set4 (MBox.set3 (MBox.set2 (MBox.set1 (MBox.set0 XZ.out (.int .i64 0)) (.int .i64 0)) (.int .i64 0)) (.int .i64 0)) (.int .i64 0)) (.int .i64 0)) (.int .i64 0)) (.int .i64 0)) (.int .i64 0)) (.string ⟨#[]⟩)) (.slice none 0 0)) (.slice none 0 0)) (.slice none 0 0)) (.slice none 0 0)) (.slice none 0 0))
        have q0 := mcell (j := 0) k1 rfl
        have q1 := mcell (j := 1) k1 rfl
        have q2 := mcell (j := 2) k1 rfl
        have q3 := mcell (j := 3) k1 rfl
        have q4 := mcell (j := 4) k1 rfl
        have q5 := mcell (j := 5) k1 rfl
        have q6 := mcell (j := 6) k1 rfl
        have q7 := mcell (j := 7) k1 rfl
        have q8 := mcell (j := 8) k1 rfl
        have q9 := mcell (j := 9) k1 rfl
        have q10 := mcell (j := 10) k1 rfl
        have q11 := mcell (j := 11) k1 rfl
        have q12 := mcell (j := 12) k1 rfl
        have q13 := mcell (j := 13) k1 rfl
        have q14 := mcell (j := 14) k1 rfl
        have HE := Lib.hid (show MsgAns w (msgRd L).1 (msgRd L).2 (.returned (.tuple #[.agg #[.int .i64 0, .int .i64 0, .int .i64 0, .int .i64 0, .int .i64 0, .int .i64 0, .int .i64 0, .int .i64 0, .int .i64 0, .string ⟨#[]⟩, .slice none 0 0, .slice none 0 0, .slice none 0 0, .slice none 0 0, .slice none 0 0], .int .i64 2])) _ from by rw [HN.out]; exact MsgAns.no rfl (((((((((((((((HZ.out.setCell (p := ⟨w.heap.size, 0, none⟩) (Nat.le_refl _) (.int .i64 0)).setCell (p := ⟨w.heap.size, 1, none⟩) (Nat.le_refl _) (.int .i64 0)).setCell (p := ⟨w.heap.size, 2, none⟩) (Nat.le_refl _) (.int .i64 0)).setCell (p := ⟨w.heap.size, 3, none⟩) (Nat.le_refl _) (.int .i64 0)).setCell (p := ⟨w.heap.size, 4, none⟩) (Nat.le_refl _) (.int .i64 0)).setCell (p := ⟨w.heap.size, 5, none⟩) (Nat.le_refl _) (.int .i64 0)).setCell (p := ⟨w.heap.size, 6, none⟩) (Nat.le_refl _) (.int .i64 0)).setCell (p := ⟨w.heap.size, 7, none⟩) (Nat.le_refl _) (.int .i64 0)).setCell (p := ⟨w.heap.size, 8, none⟩) (Nat.le_refl _) (.int .i64 0)).setCell (p := ⟨w.heap.size, 9, none⟩) (Nat.le_refl _) (.string ⟨#[]⟩)).setCell (p := ⟨w.heap.size, 10, none⟩) (Nat.le_refl _) (.slice none 0 0)).setCell (p := ⟨w.heap.size, 11, none⟩) (Nat.le_refl _) (.slice none 0 0)).setCell (p := ⟨w.heap.size, 12, none⟩) (Nat.le_refl _) (.slice none 0 0)).setCell (p := ⟨w.heap.size, 13, none⟩) (Nat.le_refl _) (.slice none 0 0)).setCell (p := ⟨w.heap.size, 14, none⟩) (Nat.le_refl _) (.slice none 0 0)))
        have HQ := Lib.hid (And.intro q0 (And.intro q1 (And.intro q2 (And.intro q3 (And.intro q4 (And.intro q5 (And.intro q6 (And.intro q7 (And.intro q8 (And.intro q9 (And.intro q10 (And.intro q11 (And.intro q12 (And.intro q13 (q14)))))))))))))))
        clear k1 q0 q1 q2 q3 q4 q5 q6 q7 q8 q9 q10 q11 q12 q13 q14
        go_wp2
        obtain ⟨q0, q1, q2, q3, q4, q5, q6, q7, q8, q9, q10, q11, q12, q13, q14⟩ := HQ.out
        refine bodyPost_ret (v := .tuple #[.agg #[.int .i64 0, .int .i64 0, .int .i64 0, .int .i64 0, .int .i64 0, .int .i64 0, .int .i64 0, .int .i64 0, .int .i64 0, .string ⟨#[]⟩, .slice none 0 0, .slice none 0 0, .slice none 0 0, .slice none 0 0, .slice none 0 0], .int .i64 2]) ?_ rfl HE.out
        simp [results, Try.results16, go_sem, q0, q1, q2, q3, q4, q5, q6, q7, q8, q9, q10, q11, q12, q13, q14]
    · have t1 : ((ao : Int) != (ni : Int)) = true := by rw [bne_iff_ne]; omega
      have t2 : ((ao : Int) == (ni : Int)) = false := by rw [beq_eq_false_iff_ne]; omega
      have HN := Lib.hid (msgRd_bad HNX.out (msgR_no2 HT.out (fun h => ha (h.1.trans HLI.out))))
      clear ha
      have XZ := XE
      have HZ := HBE
      have x0 := mcell (j := 0) XZ.out rfl
      have z0 := frozen_of_row _ _ 0 _ _ XZ.out
      have x1 := mcell (j := 1) XZ.out rfl
      have z1 := frozen_of_row _ _ 1 _ _ XZ.out
      have x2 := mcell (j := 2) XZ.out rfl
      have z2 := frozen_of_row _ _ 2 _ _ XZ.out
      have x3 := mcell (j := 3) XZ.out rfl
      have z3 := frozen_of_row _ _ 3 _ _ XZ.out
      have x4 := mcell (j := 4) XZ.out rfl
      have z4 := frozen_of_row _ _ 4 _ _ XZ.out
      have x5 := mcell (j := 5) XZ.out rfl
      have z5 := frozen_of_row _ _ 5 _ _ XZ.out
      have x6 := mcell (j := 6) XZ.out rfl
      have z6 := frozen_of_row _ _ 6 _ _ XZ.out
      have x7 := mcell (j := 7) XZ.out rfl
      have z7 := frozen_of_row _ _ 7 _ _ XZ.out
      have x8 := mcell (j := 8) XZ.out rfl
      have z8 := frozen_of_row _ _ 8 _ _ XZ.out
      have x9 := mcell (j := 9) XZ.out rfl
      have z9 := frozen_of_row _ _ 9 _ _ XZ.out
      have x10 := mcell (j := 10) XZ.out rfl
      have z10 := frozen_of_row _ _ 10 _ _ XZ.out
      have x11 := mcell (j := 11) XZ.out rfl
      have z11 := frozen_of_row _ _ 11 _ _ XZ.out
      have x12 := mcell (j := 12) XZ.out rfl
      have z12 := frozen_of_row _ _ 12 _ _ XZ.out
      have x13 := mcell (j := 13) XZ.out rfl
      have z13 := frozen_of_row _ _ 13 _ _ XZ.out
      have x14 := mcell (j := 14) XZ.out rfl
      have z14 := frozen_of_row _ _ 14 _ _ XZ.out
      have k1 := (MBox.set14 (MBox.set13 (MBox.set12 (MBox.set11 (MBox.set10 (MBox.set9 (MBox.set8 (MBox.set7 (MBox.set6 (MBox.set5 (MBox.set4 (MBox.set3 (MBox.set2 (MBox.set1 (MBox.set0 XZ.out (.int .i64 0)) (.int .i64 0)) (.int .i64 0)) (.int .i64 0)) (.int .i64 0)) (.int .i64 0)) (.int .i64 0)) (.int .i64 0)) (.int .i64 0)) (.string ⟨#[]⟩)) (.slice none 0 0)) (.slice none 0 0)) (.slice none 0 0)) (.slice none 0 0)) (.slice none 0 0))
      have q0 := mcell (j := 0) k1 rfl
      have q1 := mcell (j := 1) k1 rfl
      have q2 := mcell (j := 2) k1 rfl
      have q3 := mcell (j := 3) k1 rfl
      have q4 := mcell (j := 4) k1 rfl
      have q5 := mcell (j := 5) k1 rfl
      have q6 := mcell (j := 6) k1 rfl
      have q7 := mcell (j := 7) k1 rfl
      have q8 := mcell (j := 8) k1 rfl
      have q9 := mcell (j := 9) k1 rfl
      have q10 := mcell (j := 10) k1 rfl
      have q11 := mcell (j := 11) k1 rfl
      have q12 := mcell (j := 12) k1 rfl
      have q13 := mcell (j := 13) k1 rfl
      have q14 := mcell (j := 14) k1 rfl
      have HE := Lib.hid (show MsgAns w (msgRd L).1 (msgRd L).2 (.returned (.tuple #[.agg #[.int .i64 0, .int .i64 0, .int .i64 0, .int .i64 0, .int .i64 0, .int .i64 0, .int .i64 0, .int .i64 0, .int .i64 0, .string ⟨#[]⟩, .slice none 0 0, .slice none 0 0, .slice none 0 0, .slice none 0 0, .slice none 0 0], .int .i64 2])) _ from by rw [HN.out]; exact MsgAns.no rfl (((((((((((((((HZ.out.setCell (p := ⟨w.heap.size, 0, none⟩) (Nat.le_refl _) (.int .i64 0)).setCell (p := ⟨w.heap.size, 1, none⟩) (Nat.le_refl _) (.int .i64 0)).setCell (p := ⟨w.heap.size, 2, none⟩) (Nat.le_refl _) (.int .i64 0)).setCell (p := ⟨w.heap.size, 3, none⟩) (Nat.le_refl _) (.int .i64 0)).setCell (p := ⟨w.heap.size, 4, none⟩) (Nat.le_refl _) (.int .i64 0)).setCell (p := ⟨w.heap.size, 5, none⟩) (Nat.le_refl _) (.int .i64 0)).setCell (p := ⟨w.heap.size, 6, none⟩) (Nat.le_refl _) (.int .i64 0)).setCell (p := ⟨w.heap.size, 7, none⟩) (Nat.le_refl _) (.int .i64 0)).setCell (p := ⟨w.heap.size, 8, none⟩) (Nat.le_refl _) (.int .i64 0)).setCell (p := ⟨w.heap.size, 9, none⟩) (Nat.le_refl _) (.string ⟨#[]⟩)).setCell (p := ⟨w.heap.size, 10, none⟩) (Nat.le_refl _) (.slice none 0 0)).setCell (p := ⟨w.heap.size, 11, none⟩) (Nat.le_refl _) (.slice none 0 0)).setCell (p := ⟨w.heap.size, 12, none⟩) (Nat.le_refl _) (.slice none 0 0)).setCell (p := ⟨w.heap.size, 13, none⟩) (Nat.le_refl _) (.slice none 0 0)).setCell (p := ⟨w.heap.size, 14, none⟩) (Nat.le_refl _) (.slice none 0 0)))
      have HQ := Lib.hid (And.intro q0 (And.intro q1 (And.intro q2 (And.intro q3 (And.intro q4 (And.intro q5 (And.intro q6 (And.intro q7 (And.intro q8 (And.intro q9 (And.intro q10 (And.intro q11 (And.intro q12 (And.intro q13 (q14)))))))))))))))
      clear k1 q0 q1 q2 q3 q4 q5 q6 q7 q8 q9 q10 q11 q12 q13 q14
      go_wp2
      obtain ⟨q0, q1, q2, q3, q4, q5, q6, q7, q8, q9, q10, q11, q12, q13, q14⟩ := HQ.out
      refine bodyPost_ret (v := .tuple #[.agg #[.int .i64 0, .int .i64 0, .int .i64 0, .int .i64 0, .int .i64 0, .int .i64 0, .int .i64 0, .int .i64 0, .int .i64 0, .string ⟨#[]⟩, .slice none 0 0, .slice none 0 0, .slice none 0 0, .slice none 0 0, .slice none 0 0], .int .i64 2]) ?_ rfl HE.out
      simp [results, Try.results16, go_sem, q0, q1, q2, q3, q4, q5, q6, q7, q8, q9, q10, q11, q12, q13, q14]
end Go.Proofs.Ytgnedaihchmoaaa
