/-
  firthref06.Msg: the loop over recs. (Printed by tools/refread2.py.)
  firthref06.Msg: the loop over vec. (Printed by tools/refread2.py.)
  firthref06.Msg: the loop over path. (Printed by tools/refread2.py.)
  firthref06.Msg: the loop over route. (Printed by tools/refread2.py.)
-/
import Derived.Test.YtgnedaihchmoaaaCodeRefMsgK
import Derived.Deep.LoopGhost
namespace Go.Proofs.Ytgnedaihchmoaaa
open Go.RowKit
set_option linter.unusedVariables false

set_option maxHeartbeats 20000000 in
set_option maxRecDepth 100000 in
theorem rm_loop_r {wb wLr : World} {r g2 g8 ni ci : Nat} {Ai : Option Addr} {Li : List UInt8} {mr asr : Nat} {bsr : Bool} {kind fs fn ts tn id mn fo code : Int} {key : ByteArray} (hni : ni ≤ 1048576) (h12 : g2 < r) (h28 : r < g8) (hlr : g8 < wLr.heap.size) (hmr : mr ≤ ni)
    (HGr : Hid (QG (gMsg okQ Li 0) bsr (bindP (fun L b => pRep (gRec okQ) L mr b) (fun (recs : List Rc) (a : Nat) => bindP (pTake gInt) (fun (vec : List Int) (a : Nat) => bindP (pTake gInt) (fun (path : List Int) (a : Nat) => bindP (pTake gHash) (fun (hashes : List Int) (a : Nat) => bindP (pTake gInt) (fun (route : List Int) (a : Nat) => some ((⟨kind, fs, fn, ts, tn, id, mn, fo, code, key, recs, vec, path, hashes, route⟩ : Mg), a)) Li a) Li a) Li a) Li a) Li asr))) (HMr : Hid (MSt wb wLr r g2 g8 Ai ni ci Li asr bsr (.int .i64 kind) (.int .i64 fs) (.int .i64 fn) (.int .i64 ts) (.int .i64 tn) (.int .i64 id) (.int .i64 mn) (.int .i64 fo) (.int .i64 code) (.string key) (.slice none 0 0) (.slice none 0 0) (.slice none 0 0) (.slice none 0 0) (.slice none 0 0)))
    (y0 y1 y2 y3 y4 y5 y6 y11 y12 y13 y14 y15 y16 y17 y18 y19 y20 y21 y22 y23 y24 y25 y26 y27 y28 y29 y30 y31 y32 y33 y34 y35 y36 y37 y38 y39 y40 y41 y42 y43 y44 y45 y46 y47 y48 y49 y50 y51 y52 y53 y54 y55 y56 y57 y58 y59 y60 y61 y62 y63 y64 y65 y66 y67 y68 y69 y70 y71 y72 y73 y74 y75 y76 y77 y78 y79 y80 y81 y82 y83 y84 y85 y86 y87 y88 y89 y90 y91 y92 y93 y94 y95 y96 y97 y98 y99 y100 y101 y102 y103 y104 y105 y106 y107 y108 y109 y110 y111 y112 y113 y114 y115 y116 y117 y118 y119 y120 y121 y122 y123 y124 y125 y126 y127 y128 y129 y130 y131 y132 y133 y134 y135 y136 y137 y138 y139 y140 y141 y142 y143 y144 y145 y146 y147 y148 y149 y150 y151 y152 y153 y154 y155 y156 y157 y158 y159 y160 y161 y162 y163 y164 y165 y166 y167 y168 y169 y170 y171 y172 y173 y174 y175 y176 y177 y178 y179 y180 y181 y182 y183 y184 y185 y186 y187 y188 y189 y190 y191 y192 y193 y194 y195 y196 y197 y198 y199 y200 y201 : Value) (Q : Exit → Act → World → Prop)
    (HQ : Hid (∀ w' : World, (∃ (k a3 co : Nat) (bd : Bool) (Ao : Option Addr) (xs : List Rc), k ≤ ni ∧ Hid (QG (gMsg okQ Li 0) bd ((fun (recs : List Rc) (a : Nat) => bindP (pTake gInt) (fun (vec : List Int) (a : Nat) => bindP (pTake gInt) (fun (path : List Int) (a : Nat) => bindP (pTake gHash) (fun (hashes : List Int) (a : Nat) => bindP (pTake gInt) (fun (route : List Int) (a : Nat) => some ((⟨kind, fs, fn, ts, tn, id, mn, fo, code, key, recs, vec, path, hashes, route⟩ : Mg), a)) Li a) Li a) Li a) Li a) xs a3)) ∧ Hid (OwnRs w' wLr.heap.size (.slice Ao k co) k xs) ∧ Hid (MSt wb w' r g2 g8 Ai ni ci Li a3 bd (.int .i64 kind) (.int .i64 fs) (.int .i64 fn) (.int .i64 ts) (.int .i64 tn) (.int .i64 id) (.int .i64 mn) (.int .i64 fo) (.int .i64 code) (.string key) (.slice Ao k co) (.slice none 0 0) (.slice none 0 0) (.slice none 0 0) (.slice none 0 0)) ∧ Hid (Fr (fun i => i = r ∨ i = g8) wLr w')) → ∀ z10 z56 z57 z58 z59 z60 z61 z62 z63 z64 z65 z66 z67 z68 z69 z70 z71 z72 z73 z74 : Value, Q .normal ⟨#[y0, y1, y2, y3, y4, y5, y6, .pointer (some ⟨r, 0, none⟩), .pointer (some ⟨g8, 0, none⟩), .int .i64 (mr : Int), z10, y11, y12, y13, y14, y15, y16, y17, y18, y19, y20, y21, y22, y23, y24, y25, y26, y27, y28, y29, y30, y31, y32, y33, y34, y35, y36, y37, y38, y39, y40, y41, y42, y43, y44, y45, y46, y47, y48, y49, y50, y51, y52, y53, y54, y55, z56, z57, z58, z59, z60, z61, z62, z63, z64, z65, z66, z67, z68, z69, z70, z71, z72, z73, z74, y75, y76, y77, y78, y79, y80, y81, y82, y83, y84, y85, y86, y87, y88, y89, y90, y91, y92, y93, y94, y95, y96, y97, y98, y99, y100, y101, y102, y103, y104, y105, y106, y107, y108, y109, y110, y111, y112, y113, y114, y115, y116, y117, y118, y119, y120, y121, y122, y123, y124, y125, y126, y127, y128, y129, y130, y131, y132, y133, y134, y135, y136, y137, y138, y139, y140, y141, y142, y143, y144, y145, y146, y147, y148, y149, y150, y151, y152, y153, y154, y155, y156, y157, y158, y159, y160, y161, y162, y163, y164, y165, y166, y167, y168, y169, y170, y171, y172, y173, y174, y175, y176, y177, y178, y179, y180, y181, y182, y183, y184, y185, y186, y187, y188, y189, y190, y191, y192, y193, y194, y195, y196, y197, y198, y199, y200, y201], []⟩ w')) :
    Code.wp Try.prog rmBlk_r Q ⟨#[y0, y1, y2, y3, y4, y5, y6, .pointer (some ⟨r, 0, none⟩), .pointer (some ⟨g8, 0, none⟩), .int .i64 (mr : Int), .int .i64 0, y11, y12, y13, y14, y15, y16, y17, y18, y19, y20, y21, y22, y23, y24, y25, y26, y27, y28, y29, y30, y31, y32, y33, y34, y35, y36, y37, y38, y39, y40, y41, y42, y43, y44, y45, y46, y47, y48, y49, y50, y51, y52, y53, y54, y55, y56, y57, y58, y59, y60, y61, y62, y63, y64, y65, y66, y67, y68, y69, y70, y71, y72, y73, y74, y75, y76, y77, y78, y79, y80, y81, y82, y83, y84, y85, y86, y87, y88, y89, y90, y91, y92, y93, y94, y95, y96, y97, y98, y99, y100, y101, y102, y103, y104, y105, y106, y107, y108, y109, y110, y111, y112, y113, y114, y115, y116, y117, y118, y119, y120, y121, y122, y123, y124, y125, y126, y127, y128, y129, y130, y131, y132, y133, y134, y135, y136, y137, y138, y139, y140, y141, y142, y143, y144, y145, y146, y147, y148, y149, y150, y151, y152, y153, y154, y155, y156, y157, y158, y159, y160, y161, y162, y163, y164, y165, y166, y167, y168, y169, y170, y171, y172, y173, y174, y175, y176, y177, y178, y179, y180, y181, y182, y183, y184, y185, y186, y187, y188, y189, y190, y191, y192, y193, y194, y195, y196, y197, y198, y199, y200, y201], []⟩ wLr := by
  conv in rmBlk_r => whnf
  obtain ⟨i0, hi, hz0, hz1, hz2⟩ := info_parts Try.infoRecc
  have HFr := Lib.hid (Fr.refl (fun i => i = r ∨ i = g8) wLr)
  go_wp2_with fail
  go_loopg [10] mr (fun g i wr => ∃ (k a3 co : Nat) (bd : Bool) (Ao : Option Addr) (xs : List Rc), i = .int .i64 (k : Int) ∧ g = mr - k ∧ k ≤ mr ∧ Hid (QL (gRec okQ) (fun (recs : List Rc) (a : Nat) => bindP (pTake gInt) (fun (vec : List Int) (a : Nat) => bindP (pTake gInt) (fun (path : List Int) (a : Nat) => bindP (pTake gHash) (fun (hashes : List Int) (a : Nat) => bindP (pTake gInt) (fun (route : List Int) (a : Nat) => some ((⟨kind, fs, fn, ts, tn, id, mn, fo, code, key, recs, vec, path, hashes, route⟩ : Mg), a)) Li a) Li a) Li a) Li a) Li (gMsg okQ Li 0) mr asr bd k a3 xs) ∧ Hid (OwnRs wr wLr.heap.size (.slice Ao k co) k xs) ∧ Hid (MSt wb wr r g2 g8 Ai ni ci Li a3 bd (.int .i64 kind) (.int .i64 fs) (.int .i64 fn) (.int .i64 ts) (.int .i64 tn) (.int .i64 id) (.int .i64 mn) (.int .i64 fo) (.int .i64 code) (.string key) (.slice Ao k co) (.slice none 0 0) (.slice none 0 0) (.slice none 0 0) (.slice none 0 0)) ∧ Hid (Fr (fun i => i = r ∨ i = g8) wLr wr))
  case atStart => exact ⟨0, asr, 0, bsr, none, [], rfl, rfl, Nat.zero_le _, Lib.hid (QL.start HGr.out), Lib.hid (OwnRs.nil _ _), HMr, HFr⟩
  case round =>
    obtain ⟨k, a3, co, bd, Ao, xs, rfl, rfl, hk, HL, HO, HM, HF⟩ := hrel
    clear HMr HFr HGr
    have cb := HM.out.st.c2
    have hszr := HF.out.size
    by_cases hlt : k < mr
    · cases bd with
      | true =>
        go_wp2_with fail
        exact HQ.out _ ⟨k, a3, co, true, Ao, xs, by omega, Lib.hid HL.out.spoilt, HO, HM, HF⟩ _ _ _ _ _ _ _ _ _ _ _ _ _ _ _ _ _ _ _ _
      | false =>
        obtain ⟨rows, hxs, hro⟩ := HO.out
        subst hxs
        have HO := Lib.hid hro
        clear hro
        have CW := Lib.hid (fun (W : World) (b : Below wr.heap.size wr W) => qrec_one (HM.out.st.move b) (show ni ≤ 1000000000000 by omega))
        have p := mcell (j := 10) HM.out.b8 rfl
        go_wp2_with fail
        refine wp_region_noPanic ?_
        go_region_law (first
          | (go_simp; go_at_call 61; refine (CW.out _ (Below.refl _ wr).drew).mono ?_; rintro e w3 ⟨_, ⟨key4, vs4⟩, a4, b4, rfl, ⟨vr, Ap4, cp4, rfl, hvr, hov, hcp, hk2, hn2⟩, hq, f, q⟩; simp only at hvr hov hcp hk2 hn2; have f4 : Fr (fun i => i = r) wr w3 := (Fr.of_below (Below.refl _ wr).drew).on f; have hM3 := HM.out.call hq f4; have p' := mcell (j := 10) hM3.b8 rfl; have z' := frozen_of_row _ _ 10 _ _ hM3.b8; have hs3 : wLr.heap.size ≤ w3.heap.size := Nat.le_trans hszr f4.size; have hg3 : g8 < w3.heap.size := lt_of_block hM3.b8; have HX := Lib.hid (And.intro hM3 (And.intro (HO.out.keepF f4 (fun i hi e => by have e2 : i = r := e; omega)) (fr2_trans HF.out f4))); have HQ6 := Lib.hid (HL.out.step hlt q); have HY := Lib.hid (And.intro hvr (And.intro (hov.lower (show wLr.heap.size ≤ _ by simp; omega)) (And.intro hcp (And.intro hk2 hn2)))); clear hvr hov hcp hk2 hn2; clear hq f q f4 hM3)
          | (refine step_append_sl rfl (.tmp 69) (.tmp 72) 25 rfl wLr.heap.size 48 i0 (.agg #[.string ⟨#[]⟩, .slice none 0 0]) 2 40 Try.underlying25 hi hz0 hz1 hz2 rfl (by decide) (.slice Ao k co) k (rows.flatMap rV1) rfl (HX.out.2.1.1.alloc _) (some ⟨w3.heap.size, 0, none⟩) 1 1 (rV1 ((⟨key4, vs4⟩ : Rc), Ap4, vs4.length, cp4)) rfl (sl_rec w3 ((⟨key4, vs4⟩ : Rc), Ap4, vs4.length, cp4) _) (rV1_one _) (by unfold maxLen; omega) (by omega) (by simp; omega) ?_; intro v5 w5 own5 g5 _; obtain ⟨A5, c5, rfl, -, -⟩ := own_slice own5; have hG := HX.out.2.1.alloc (.cells #[.string key4, .slice Ap4 vs4.length cp4] 48); have b5 : Below wLr.heap.size w3 w5 := ((Below.refl _ w3).alloc hs3 _).grown g5 (by simp; omega) (fun q hq => (hG.1.lt q hq).1); have hM5 := HX.out.1.move b5 hlr; have p5 := mcell (j := 10) hM5.b8 rfl; have z5 := frozen_of_row _ _ 10 _ _ hM5.b8; have HM6 := Lib.hid (hM5.store 10 (.slice A5 (k + 1) c5) rfl); have HO6 := Lib.hid (show OwnRs _ wLr.heap.size (.slice A5 (k + 1) c5) (k + 1) (rows.map (·.1) ++ [(⟨key4, vs4⟩ : Rc)]) from ⟨rows ++ [((⟨key4, vs4⟩ : Rc), Ap4, vs4.length, cp4)], by simp, (OwnR.push (y := ((⟨key4, vs4⟩ : Rc), Ap4, vs4.length, cp4)) hG ⟨⟨vr, HY.out.1, HY.out.2.1.alloc _⟩, rfl, HY.out.2.2.1, HY.out.2.2.2⟩ own5 g5).keepF ((Fr.refl (fun i => i = g8) w5).more (b := g8) (j := 10) rfl (.slice A5 (k + 1) c5)) (fun i hi e => by have e2 : i = g8 := e; omega)⟩); have HF6 := Lib.hid (fr2_set (j := 10) (fr2_low HX.out.2.2 b5 (Nat.le_refl _)) (.slice A5 (k + 1) c5)); clear own5 g5 hG b5 hM5))
        all_goals refine NoPanic.normal ?_
        all_goals go_wp2
        all_goals go_roundg (mr - (k + 1))
        all_goals first
          | omega
          | exact ⟨k + 1, a4, c5, b4, A5, _, by go_num, rfl, by omega, HQ6, HO6, HM6, HF6⟩
    · obtain rfl : k = mr := by omega
      cases bd with
      | true =>
        go_wp2_with fail
        exact HQ.out _ ⟨k, a3, co, true, Ao, xs, by omega, Lib.hid HL.out.spoilt, HO, HM, HF⟩ _ _ _ _ _ _ _ _ _ _ _ _ _ _ _ _ _ _ _ _
      | false =>
        go_wp2_with fail
        exact HQ.out _ ⟨k, a3, co, false, Ao, xs, by omega, Lib.hid HL.out.fin, HO, HM, HF⟩ _ _ _ _ _ _ _ _ _ _ _ _ _ _ _ _ _ _ _ _
end Go.Proofs.Ytgnedaihchmoaaa
namespace Go.Proofs.Ytgnedaihchmoaaa
open Go.RowKit
set_option linter.unusedVariables false

set_option maxHeartbeats 20000000 in
set_option maxRecDepth 100000 in
theorem rm_loop_v {wb wLv : World} {r g2 g8 ni ci : Nat} {Ai : Option Addr} {Li : List UInt8} {mv asv : Nat} {bsv : Bool} {kind fs fn ts tn id mn fo code : Int} {key : ByteArray} {Ar : Option Addr} {nr cr : Nat} {recs : List Rc} (hni : ni ≤ 1048576) (h12 : g2 < r) (h28 : r < g8) (hlv : g8 < wLv.heap.size) (hmv : mv ≤ ni)
    (HGv : Hid (QG (gMsg okQ Li 0) bsv (bindP (fun L b => pRep gInt L mv b) (fun (vec : List Int) (a : Nat) => bindP (pTake gInt) (fun (path : List Int) (a : Nat) => bindP (pTake gHash) (fun (hashes : List Int) (a : Nat) => bindP (pTake gInt) (fun (route : List Int) (a : Nat) => some ((⟨kind, fs, fn, ts, tn, id, mn, fo, code, key, recs, vec, path, hashes, route⟩ : Mg), a)) Li a) Li a) Li a) Li asv))) (HMv : Hid (MSt wb wLv r g2 g8 Ai ni ci Li asv bsv (.int .i64 kind) (.int .i64 fs) (.int .i64 fn) (.int .i64 ts) (.int .i64 tn) (.int .i64 id) (.int .i64 mn) (.int .i64 fo) (.int .i64 code) (.string key) (.slice Ar nr cr) (.slice none 0 0) (.slice none 0 0) (.slice none 0 0) (.slice none 0 0)))
    (y0 y1 y2 y3 y4 y5 y6 y10 y12 y13 y14 y15 y16 y17 y18 y19 y20 y21 y22 y23 y24 y25 y26 y27 y28 y29 y30 y31 y32 y33 y34 y35 y36 y37 y38 y39 y40 y41 y42 y43 y44 y45 y46 y47 y48 y49 y50 y51 y52 y53 y54 y55 y56 y57 y58 y59 y60 y61 y62 y63 y64 y65 y66 y67 y68 y69 y70 y71 y72 y73 y74 y75 y76 y77 y78 y79 y80 y81 y82 y83 y84 y85 y86 y87 y88 y89 y90 y91 y92 y93 y94 y95 y96 y97 y98 y99 y100 y101 y102 y103 y104 y105 y106 y107 y108 y109 y110 y111 y112 y113 y114 y115 y116 y117 y118 y119 y120 y121 y122 y123 y124 y125 y126 y127 y128 y129 y130 y131 y132 y133 y134 y135 y136 y137 y138 y139 y140 y141 y142 y143 y144 y145 y146 y147 y148 y149 y150 y151 y152 y153 y154 y155 y156 y157 y158 y159 y160 y161 y162 y163 y164 y165 y166 y167 y168 y169 y170 y171 y172 y173 y174 y175 y176 y177 y178 y179 y180 y181 y182 y183 y184 y185 y186 y187 y188 y189 y190 y191 y192 y193 y194 y195 y196 y197 y198 y199 y200 y201 : Value) (Q : Exit → Act → World → Prop)
    (HQ : Hid (∀ w' : World, (∃ (k a3 co : Nat) (bd : Bool) (Ao : Option Addr) (xs : List Int), k ≤ ni ∧ Hid (QG (gMsg okQ Li 0) bd ((fun (vec : List Int) (a : Nat) => bindP (pTake gInt) (fun (path : List Int) (a : Nat) => bindP (pTake gHash) (fun (hashes : List Int) (a : Nat) => bindP (pTake gInt) (fun (route : List Int) (a : Nat) => some ((⟨kind, fs, fn, ts, tn, id, mn, fo, code, key, recs, vec, path, hashes, route⟩ : Mg), a)) Li a) Li a) Li a) xs a3)) ∧ Hid (World.ownsRow w' wLv.heap.size 2 1 (.slice Ao k co) k (xs.map (Value.int .i64))) ∧ Hid (MSt wb w' r g2 g8 Ai ni ci Li a3 bd (.int .i64 kind) (.int .i64 fs) (.int .i64 fn) (.int .i64 ts) (.int .i64 tn) (.int .i64 id) (.int .i64 mn) (.int .i64 fo) (.int .i64 code) (.string key) (.slice Ar nr cr) (.slice Ao k co) (.slice none 0 0) (.slice none 0 0) (.slice none 0 0)) ∧ Hid (Fr (fun i => i = r ∨ i = g8) wLv w')) → ∀ z11 z77 z78 z79 z80 z81 z82 z83 z84 z85 z86 z87 z88 z89 z90 z91 z92 z93 z94 z95 : Value, Q .normal ⟨#[y0, y1, y2, y3, y4, y5, y6, .pointer (some ⟨r, 0, none⟩), .pointer (some ⟨g8, 0, none⟩), .int .i64 (mv : Int), y10, z11, y12, y13, y14, y15, y16, y17, y18, y19, y20, y21, y22, y23, y24, y25, y26, y27, y28, y29, y30, y31, y32, y33, y34, y35, y36, y37, y38, y39, y40, y41, y42, y43, y44, y45, y46, y47, y48, y49, y50, y51, y52, y53, y54, y55, y56, y57, y58, y59, y60, y61, y62, y63, y64, y65, y66, y67, y68, y69, y70, y71, y72, y73, y74, y75, y76, z77, z78, z79, z80, z81, z82, z83, z84, z85, z86, z87, z88, z89, z90, z91, z92, z93, z94, z95, y96, y97, y98, y99, y100, y101, y102, y103, y104, y105, y106, y107, y108, y109, y110, y111, y112, y113, y114, y115, y116, y117, y118, y119, y120, y121, y122, y123, y124, y125, y126, y127, y128, y129, y130, y131, y132, y133, y134, y135, y136, y137, y138, y139, y140, y141, y142, y143, y144, y145, y146, y147, y148, y149, y150, y151, y152, y153, y154, y155, y156, y157, y158, y159, y160, y161, y162, y163, y164, y165, y166, y167, y168, y169, y170, y171, y172, y173, y174, y175, y176, y177, y178, y179, y180, y181, y182, y183, y184, y185, y186, y187, y188, y189, y190, y191, y192, y193, y194, y195, y196, y197, y198, y199, y200, y201], []⟩ w')) :
    Code.wp Try.prog rmBlk_v Q ⟨#[y0, y1, y2, y3, y4, y5, y6, .pointer (some ⟨r, 0, none⟩), .pointer (some ⟨g8, 0, none⟩), .int .i64 (mv : Int), y10, .int .i64 0, y12, y13, y14, y15, y16, y17, y18, y19, y20, y21, y22, y23, y24, y25, y26, y27, y28, y29, y30, y31, y32, y33, y34, y35, y36, y37, y38, y39, y40, y41, y42, y43, y44, y45, y46, y47, y48, y49, y50, y51, y52, y53, y54, y55, y56, y57, y58, y59, y60, y61, y62, y63, y64, y65, y66, y67, y68, y69, y70, y71, y72, y73, y74, y75, y76, y77, y78, y79, y80, y81, y82, y83, y84, y85, y86, y87, y88, y89, y90, y91, y92, y93, y94, y95, y96, y97, y98, y99, y100, y101, y102, y103, y104, y105, y106, y107, y108, y109, y110, y111, y112, y113, y114, y115, y116, y117, y118, y119, y120, y121, y122, y123, y124, y125, y126, y127, y128, y129, y130, y131, y132, y133, y134, y135, y136, y137, y138, y139, y140, y141, y142, y143, y144, y145, y146, y147, y148, y149, y150, y151, y152, y153, y154, y155, y156, y157, y158, y159, y160, y161, y162, y163, y164, y165, y166, y167, y168, y169, y170, y171, y172, y173, y174, y175, y176, y177, y178, y179, y180, y181, y182, y183, y184, y185, y186, y187, y188, y189, y190, y191, y192, y193, y194, y195, y196, y197, y198, y199, y200, y201], []⟩ wLv := by
  conv in rmBlk_v => whnf
  obtain ⟨i1, ji, jz0, jz1, jz2⟩ := info_parts Try.infoI64c
  have HFv := Lib.hid (Fr.refl (fun i => i = r ∨ i = g8) wLv)
  go_wp2_with fail
  go_loopg [11] mv (fun g i wr => ∃ (k a3 co : Nat) (bd : Bool) (Ao : Option Addr) (xs : List Int), i = .int .i64 (k : Int) ∧ g = mv - k ∧ k ≤ mv ∧ Hid (QL gInt (fun (vec : List Int) (a : Nat) => bindP (pTake gInt) (fun (path : List Int) (a : Nat) => bindP (pTake gHash) (fun (hashes : List Int) (a : Nat) => bindP (pTake gInt) (fun (route : List Int) (a : Nat) => some ((⟨kind, fs, fn, ts, tn, id, mn, fo, code, key, recs, vec, path, hashes, route⟩ : Mg), a)) Li a) Li a) Li a) Li (gMsg okQ Li 0) mv asv bd k a3 xs) ∧ Hid (World.ownsRow wr wLv.heap.size 2 1 (.slice Ao k co) k (xs.map (Value.int .i64))) ∧ Hid (MSt wb wr r g2 g8 Ai ni ci Li a3 bd (.int .i64 kind) (.int .i64 fs) (.int .i64 fn) (.int .i64 ts) (.int .i64 tn) (.int .i64 id) (.int .i64 mn) (.int .i64 fo) (.int .i64 code) (.string key) (.slice Ar nr cr) (.slice Ao k co) (.slice none 0 0) (.slice none 0 0) (.slice none 0 0)) ∧ Hid (Fr (fun i => i = r ∨ i = g8) wLv wr))
  case atStart => exact ⟨0, asv, 0, bsv, none, [], rfl, rfl, Nat.zero_le _, Lib.hid (QL.start HGv.out), Lib.hid (World.ownsRow_nil _ _ _ _), HMv, HFv⟩
  case round =>
    obtain ⟨k, a3, co, bd, Ao, xs, rfl, rfl, hk, HL, HO, HM, HF⟩ := hrel
    clear HMv HFv HGv
    have cb := HM.out.st.c2
    have hszr := HF.out.size
    by_cases hlt : k < mv
    · cases bd with
      | true =>
        go_wp2_with fail
        exact HQ.out _ ⟨k, a3, co, true, Ao, xs, by omega, Lib.hid HL.out.spoilt, HO, HM, HF⟩ _ _ _ _ _ _ _ _ _ _ _ _ _ _ _ _ _ _ _ _
      | false =>
        have CW := Lib.hid (fun (W : World) (b : Below wr.heap.size wr W) => qnum_int (HM.out.st.move b))
        have p := mcell (j := 11) HM.out.b8 rfl
        go_wp2_with fail
        refine wp_region_noPanic ?_
        go_region_law (first
          | (go_simp; go_at_call 57; refine (CW.out _ (Below.refl _ wr).drew).mono ?_; rintro e w3 ⟨_, x4, a4, b4, rfl, ⟨rfl, hx0, hx1⟩, hq, f, q⟩; have f4 : Fr (fun i => i = r) wr w3 := (Fr.of_below (Below.refl _ wr).drew).on f; have hM3 := HM.out.call hq f4; have p' := mcell (j := 11) hM3.b8 rfl; have z' := frozen_of_row _ _ 11 _ _ hM3.b8; have hs3 : wLv.heap.size ≤ w3.heap.size := Nat.le_trans hszr f4.size; have hg3 : g8 < w3.heap.size := lt_of_block hM3.b8; have HX := Lib.hid (And.intro hM3 (And.intro (own_keepF HO.out f4 (fun i hi e => by have e2 : i = r := e; omega)) (fr2_trans HF.out f4))); have HQ6 := Lib.hid (HL.out.step hlt q); skip; clear hq f q f4 hM3)
          | (refine step_append_sl rfl (.tmp 90) (.tmp 93) 26 rfl wLv.heap.size 2 i1 (.int .i64 0) 1 8 Try.underlying26 ji jz0 jz1 jz2 rfl (by decide) (.slice Ao k co) k (xs.map (Value.int .i64)) rfl (HX.out.2.1.alloc _) (some ⟨w3.heap.size, 0, none⟩) 1 1 [.int .i64 x4] rfl (sl_lit _ _ _ _ 1 1 _ rfl rfl rfl) (by intro u hu; simp at hu; subst hu; rfl) (by unfold maxLen; omega) (by omega) (by simp; omega) ?_; intro v5 w5 own5 g5 _; obtain ⟨A5, c5, rfl, -, -⟩ := own_slice own5; have hG := HX.out.2.1.alloc (.cells #[.int .i64 x4] 2); have b5 : Below wLv.heap.size w3 w5 := ((Below.refl _ w3).alloc hs3 _).grown g5 (by simp; omega) (fun q hq => (hG.lt q hq).1); have hM5 := HX.out.1.move b5 hlv; have p5 := mcell (j := 11) hM5.b8 rfl; have z5 := frozen_of_row _ _ 11 _ _ hM5.b8; have HM6 := Lib.hid (hM5.store 11 (.slice A5 (k + 1) c5) rfl); have HO6 := Lib.hid (show World.ownsRow _ wLv.heap.size 2 1 (.slice A5 (k + 1) c5) (k + 1) ((xs ++ [x4]).map (Value.int .i64)) from by rw [List.map_append]; exact own_keepF own5 ((Fr.refl (fun i => i = g8) w5).more (b := g8) (j := 11) rfl (.slice A5 (k + 1) c5)) (fun i hi e => by have e2 : i = g8 := e; omega)); have HF6 := Lib.hid (fr2_set (j := 11) (fr2_low HX.out.2.2 b5 (Nat.le_refl _)) (.slice A5 (k + 1) c5)); clear own5 g5 hG b5 hM5))
        all_goals refine NoPanic.normal ?_
        all_goals go_wp2
        all_goals go_roundg (mv - (k + 1))
        all_goals first
          | omega
          | exact ⟨k + 1, a4, c5, b4, A5, _, by go_num, rfl, by omega, HQ6, HO6, HM6, HF6⟩
    · obtain rfl : k = mv := by omega
      cases bd with
      | true =>
        go_wp2_with fail
        exact HQ.out _ ⟨k, a3, co, true, Ao, xs, by omega, Lib.hid HL.out.spoilt, HO, HM, HF⟩ _ _ _ _ _ _ _ _ _ _ _ _ _ _ _ _ _ _ _ _
      | false =>
        go_wp2_with fail
        exact HQ.out _ ⟨k, a3, co, false, Ao, xs, by omega, Lib.hid HL.out.fin, HO, HM, HF⟩ _ _ _ _ _ _ _ _ _ _ _ _ _ _ _ _ _ _ _ _
end Go.Proofs.Ytgnedaihchmoaaa
namespace Go.Proofs.Ytgnedaihchmoaaa
open Go.RowKit
set_option linter.unusedVariables false

set_option maxHeartbeats 20000000 in
set_option maxRecDepth 100000 in
theorem rm_loop_p {wb wLp : World} {r g2 g8 ni ci : Nat} {Ai : Option Addr} {Li : List UInt8} {mp asp : Nat} {bsp : Bool} {kind fs fn ts tn id mn fo code : Int} {key : ByteArray} {Ar : Option Addr} {nr cr : Nat} {recs : List Rc} {Av : Option Addr} {nv cv : Nat} {vec : List Int} (hni : ni ≤ 1048576) (h12 : g2 < r) (h28 : r < g8) (hlp : g8 < wLp.heap.size) (hmp : mp ≤ ni)
    (HGp : Hid (QG (gMsg okQ Li 0) bsp (bindP (fun L b => pRep gInt L mp b) (fun (path : List Int) (a : Nat) => bindP (pTake gHash) (fun (hashes : List Int) (a : Nat) => bindP (pTake gInt) (fun (route : List Int) (a : Nat) => some ((⟨kind, fs, fn, ts, tn, id, mn, fo, code, key, recs, vec, path, hashes, route⟩ : Mg), a)) Li a) Li a) Li asp))) (HMp : Hid (MSt wb wLp r g2 g8 Ai ni ci Li asp bsp (.int .i64 kind) (.int .i64 fs) (.int .i64 fn) (.int .i64 ts) (.int .i64 tn) (.int .i64 id) (.int .i64 mn) (.int .i64 fo) (.int .i64 code) (.string key) (.slice Ar nr cr) (.slice Av nv cv) (.slice none 0 0) (.slice none 0 0) (.slice none 0 0)))
    (y0 y1 y2 y3 y4 y5 y6 y10 y11 y13 y14 y15 y16 y17 y18 y19 y20 y21 y22 y23 y24 y25 y26 y27 y28 y29 y30 y31 y32 y33 y34 y35 y36 y37 y38 y39 y40 y41 y42 y43 y44 y45 y46 y47 y48 y49 y50 y51 y52 y53 y54 y55 y56 y57 y58 y59 y60 y61 y62 y63 y64 y65 y66 y67 y68 y69 y70 y71 y72 y73 y74 y75 y76 y77 y78 y79 y80 y81 y82 y83 y84 y85 y86 y87 y88 y89 y90 y91 y92 y93 y94 y95 y96 y97 y98 y99 y100 y101 y102 y103 y104 y105 y106 y107 y108 y109 y110 y111 y112 y113 y114 y115 y116 y117 y118 y119 y120 y121 y122 y123 y124 y125 y126 y127 y128 y129 y130 y131 y132 y133 y134 y135 y136 y137 y138 y139 y140 y141 y142 y143 y144 y145 y146 y147 y148 y149 y150 y151 y152 y153 y154 y155 y156 y157 y158 y159 y160 y161 y162 y163 y164 y165 y166 y167 y168 y169 y170 y171 y172 y173 y174 y175 y176 y177 y178 y179 y180 y181 y182 y183 y184 y185 y186 y187 y188 y189 y190 y191 y192 y193 y194 y195 y196 y197 y198 y199 y200 y201 : Value) (Q : Exit → Act → World → Prop)
    (HQ : Hid (∀ w' : World, (∃ (k a3 co : Nat) (bd : Bool) (Ao : Option Addr) (xs : List Int), k ≤ ni ∧ Hid (QG (gMsg okQ Li 0) bd ((fun (path : List Int) (a : Nat) => bindP (pTake gHash) (fun (hashes : List Int) (a : Nat) => bindP (pTake gInt) (fun (route : List Int) (a : Nat) => some ((⟨kind, fs, fn, ts, tn, id, mn, fo, code, key, recs, vec, path, hashes, route⟩ : Mg), a)) Li a) Li a) xs a3)) ∧ Hid (World.ownsRow w' wLp.heap.size 3 1 (.slice Ao k co) k (xs.map (Value.int .i64))) ∧ Hid (MSt wb w' r g2 g8 Ai ni ci Li a3 bd (.int .i64 kind) (.int .i64 fs) (.int .i64 fn) (.int .i64 ts) (.int .i64 tn) (.int .i64 id) (.int .i64 mn) (.int .i64 fo) (.int .i64 code) (.string key) (.slice Ar nr cr) (.slice Av nv cv) (.slice Ao k co) (.slice none 0 0) (.slice none 0 0)) ∧ Hid (Fr (fun i => i = r ∨ i = g8) wLp w')) → ∀ z12 z98 z99 z100 z101 z102 z103 z104 z105 z106 z107 z108 z109 z110 z111 z112 z113 z114 z115 z116 : Value, Q .normal ⟨#[y0, y1, y2, y3, y4, y5, y6, .pointer (some ⟨r, 0, none⟩), .pointer (some ⟨g8, 0, none⟩), .int .i64 (mp : Int), y10, y11, z12, y13, y14, y15, y16, y17, y18, y19, y20, y21, y22, y23, y24, y25, y26, y27, y28, y29, y30, y31, y32, y33, y34, y35, y36, y37, y38, y39, y40, y41, y42, y43, y44, y45, y46, y47, y48, y49, y50, y51, y52, y53, y54, y55, y56, y57, y58, y59, y60, y61, y62, y63, y64, y65, y66, y67, y68, y69, y70, y71, y72, y73, y74, y75, y76, y77, y78, y79, y80, y81, y82, y83, y84, y85, y86, y87, y88, y89, y90, y91, y92, y93, y94, y95, y96, y97, z98, z99, z100, z101, z102, z103, z104, z105, z106, z107, z108, z109, z110, z111, z112, z113, z114, z115, z116, y117, y118, y119, y120, y121, y122, y123, y124, y125, y126, y127, y128, y129, y130, y131, y132, y133, y134, y135, y136, y137, y138, y139, y140, y141, y142, y143, y144, y145, y146, y147, y148, y149, y150, y151, y152, y153, y154, y155, y156, y157, y158, y159, y160, y161, y162, y163, y164, y165, y166, y167, y168, y169, y170, y171, y172, y173, y174, y175, y176, y177, y178, y179, y180, y181, y182, y183, y184, y185, y186, y187, y188, y189, y190, y191, y192, y193, y194, y195, y196, y197, y198, y199, y200, y201], []⟩ w')) :
    Code.wp Try.prog rmBlk_p Q ⟨#[y0, y1, y2, y3, y4, y5, y6, .pointer (some ⟨r, 0, none⟩), .pointer (some ⟨g8, 0, none⟩), .int .i64 (mp : Int), y10, y11, .int .i64 0, y13, y14, y15, y16, y17, y18, y19, y20, y21, y22, y23, y24, y25, y26, y27, y28, y29, y30, y31, y32, y33, y34, y35, y36, y37, y38, y39, y40, y41, y42, y43, y44, y45, y46, y47, y48, y49, y50, y51, y52, y53, y54, y55, y56, y57, y58, y59, y60, y61, y62, y63, y64, y65, y66, y67, y68, y69, y70, y71, y72, y73, y74, y75, y76, y77, y78, y79, y80, y81, y82, y83, y84, y85, y86, y87, y88, y89, y90, y91, y92, y93, y94, y95, y96, y97, y98, y99, y100, y101, y102, y103, y104, y105, y106, y107, y108, y109, y110, y111, y112, y113, y114, y115, y116, y117, y118, y119, y120, y121, y122, y123, y124, y125, y126, y127, y128, y129, y130, y131, y132, y133, y134, y135, y136, y137, y138, y139, y140, y141, y142, y143, y144, y145, y146, y147, y148, y149, y150, y151, y152, y153, y154, y155, y156, y157, y158, y159, y160, y161, y162, y163, y164, y165, y166, y167, y168, y169, y170, y171, y172, y173, y174, y175, y176, y177, y178, y179, y180, y181, y182, y183, y184, y185, y186, y187, y188, y189, y190, y191, y192, y193, y194, y195, y196, y197, y198, y199, y200, y201], []⟩ wLp := by
  conv in rmBlk_p => whnf
  obtain ⟨i2, li, lz0, lz1, lz2⟩ := info_parts Try.infoIntc
  have HFp := Lib.hid (Fr.refl (fun i => i = r ∨ i = g8) wLp)
  go_wp2_with fail
  go_loopg [12] mp (fun g i wr => ∃ (k a3 co : Nat) (bd : Bool) (Ao : Option Addr) (xs : List Int), i = .int .i64 (k : Int) ∧ g = mp - k ∧ k ≤ mp ∧ Hid (QL gInt (fun (path : List Int) (a : Nat) => bindP (pTake gHash) (fun (hashes : List Int) (a : Nat) => bindP (pTake gInt) (fun (route : List Int) (a : Nat) => some ((⟨kind, fs, fn, ts, tn, id, mn, fo, code, key, recs, vec, path, hashes, route⟩ : Mg), a)) Li a) Li a) Li (gMsg okQ Li 0) mp asp bd k a3 xs) ∧ Hid (World.ownsRow wr wLp.heap.size 3 1 (.slice Ao k co) k (xs.map (Value.int .i64))) ∧ Hid (MSt wb wr r g2 g8 Ai ni ci Li a3 bd (.int .i64 kind) (.int .i64 fs) (.int .i64 fn) (.int .i64 ts) (.int .i64 tn) (.int .i64 id) (.int .i64 mn) (.int .i64 fo) (.int .i64 code) (.string key) (.slice Ar nr cr) (.slice Av nv cv) (.slice Ao k co) (.slice none 0 0) (.slice none 0 0)) ∧ Hid (Fr (fun i => i = r ∨ i = g8) wLp wr))
  case atStart => exact ⟨0, asp, 0, bsp, none, [], rfl, rfl, Nat.zero_le _, Lib.hid (QL.start HGp.out), Lib.hid (World.ownsRow_nil _ _ _ _), HMp, HFp⟩
  case round =>
    obtain ⟨k, a3, co, bd, Ao, xs, rfl, rfl, hk, HL, HO, HM, HF⟩ := hrel
    clear HMp HFp HGp
    have cb := HM.out.st.c2
    have hszr := HF.out.size
    by_cases hlt : k < mp
    · cases bd with
      | true =>
        go_wp2_with fail
        exact HQ.out _ ⟨k, a3, co, true, Ao, xs, by omega, Lib.hid HL.out.spoilt, HO, HM, HF⟩ _ _ _ _ _ _ _ _ _ _ _ _ _ _ _ _ _ _ _ _
      | false =>
        have CW := Lib.hid (fun (W : World) (b : Below wr.heap.size wr W) => qnum_int (HM.out.st.move b))
        have p := mcell (j := 12) HM.out.b8 rfl
        go_wp2_with fail
        refine wp_region_noPanic ?_
        go_region_law (first
          | (go_simp; go_at_call 57; refine (CW.out _ (Below.refl _ wr).drew).mono ?_; rintro e w3 ⟨_, x4, a4, b4, rfl, ⟨rfl, hx0, hx1⟩, hq, f, q⟩; have f4 : Fr (fun i => i = r) wr w3 := (Fr.of_below (Below.refl _ wr).drew).on f; have hM3 := HM.out.call hq f4; have p' := mcell (j := 12) hM3.b8 rfl; have z' := frozen_of_row _ _ 12 _ _ hM3.b8; have hs3 : wLp.heap.size ≤ w3.heap.size := Nat.le_trans hszr f4.size; have hg3 : g8 < w3.heap.size := lt_of_block hM3.b8; have HX := Lib.hid (And.intro hM3 (And.intro (own_keepF HO.out f4 (fun i hi e => by have e2 : i = r := e; omega)) (fr2_trans HF.out f4))); have HQ6 := Lib.hid (HL.out.step hlt q); skip; clear hq f q f4 hM3)
          | (refine step_append_sl rfl (.tmp 111) (.tmp 114) 27 rfl wLp.heap.size 3 i2 (.int .i64 0) 1 8 Try.underlying27 li lz0 lz1 lz2 rfl (by decide) (.slice Ao k co) k (xs.map (Value.int .i64)) rfl (HX.out.2.1.alloc _) (some ⟨w3.heap.size, 0, none⟩) 1 1 [.int .i64 x4] rfl (sl_lit _ _ _ _ 1 1 _ rfl rfl rfl) (by intro u hu; simp at hu; subst hu; rfl) (by unfold maxLen; omega) (by omega) (by simp; omega) ?_; intro v5 w5 own5 g5 _; obtain ⟨A5, c5, rfl, -, -⟩ := own_slice own5; have hG := HX.out.2.1.alloc (.cells #[.int .i64 x4] 3); have b5 : Below wLp.heap.size w3 w5 := ((Below.refl _ w3).alloc hs3 _).grown g5 (by simp; omega) (fun q hq => (hG.lt q hq).1); have hM5 := HX.out.1.move b5 hlp; have p5 := mcell (j := 12) hM5.b8 rfl; have z5 := frozen_of_row _ _ 12 _ _ hM5.b8; have HM6 := Lib.hid (hM5.store 12 (.slice A5 (k + 1) c5) rfl); have HO6 := Lib.hid (show World.ownsRow _ wLp.heap.size 3 1 (.slice A5 (k + 1) c5) (k + 1) ((xs ++ [x4]).map (Value.int .i64)) from by rw [List.map_append]; exact own_keepF own5 ((Fr.refl (fun i => i = g8) w5).more (b := g8) (j := 12) rfl (.slice A5 (k + 1) c5)) (fun i hi e => by have e2 : i = g8 := e; omega)); have HF6 := Lib.hid (fr2_set (j := 12) (fr2_low HX.out.2.2 b5 (Nat.le_refl _)) (.slice A5 (k + 1) c5)); clear own5 g5 hG b5 hM5))
        all_goals refine NoPanic.normal ?_
        all_goals go_wp2
        all_goals go_roundg (mp - (k + 1))
        all_goals first
          | omega
          | exact ⟨k + 1, a4, c5, b4, A5, _, by go_num, rfl, by omega, HQ6, HO6, HM6, HF6⟩
    · obtain rfl : k = mp := by omega
      cases bd with
      | true =>
        go_wp2_with fail
        exact HQ.out _ ⟨k, a3, co, true, Ao, xs, by omega, Lib.hid HL.out.spoilt, HO, HM, HF⟩ _ _ _ _ _ _ _ _ _ _ _ _ _ _ _ _ _ _ _ _
      | false =>
        go_wp2_with fail
        exact HQ.out _ ⟨k, a3, co, false, Ao, xs, by omega, Lib.hid HL.out.fin, HO, HM, HF⟩ _ _ _ _ _ _ _ _ _ _ _ _ _ _ _ _ _ _ _ _
end Go.Proofs.Ytgnedaihchmoaaa
namespace Go.Proofs.Ytgnedaihchmoaaa
open Go.RowKit
set_option linter.unusedVariables false

set_option maxHeartbeats 20000000 in
set_option maxRecDepth 100000 in
theorem rm_loop_o {wb wLo : World} {r g2 g8 ni ci : Nat} {Ai : Option Addr} {Li : List UInt8} {mo aso : Nat} {bso : Bool} {kind fs fn ts tn id mn fo code : Int} {key : ByteArray} {Ar : Option Addr} {nr cr : Nat} {recs : List Rc} {Av : Option Addr} {nv cv : Nat} {vec : List Int} {Ap : Option Addr} {np cp : Nat} {path : List Int} {Ah : Option Addr} {nh ch : Nat} {hashes : List Int} (hni : ni ≤ 1048576) (h12 : g2 < r) (h28 : r < g8) (hlo : g8 < wLo.heap.size) (hmo : mo ≤ ni)
    (HGo : Hid (QG (gMsg okQ Li 0) bso (bindP (fun L b => pRep gInt L mo b) (fun (route : List Int) (a : Nat) => some ((⟨kind, fs, fn, ts, tn, id, mn, fo, code, key, recs, vec, path, hashes, route⟩ : Mg), a)) Li aso))) (HMo : Hid (MSt wb wLo r g2 g8 Ai ni ci Li aso bso (.int .i64 kind) (.int .i64 fs) (.int .i64 fn) (.int .i64 ts) (.int .i64 tn) (.int .i64 id) (.int .i64 mn) (.int .i64 fo) (.int .i64 code) (.string key) (.slice Ar nr cr) (.slice Av nv cv) (.slice Ap np cp) (.slice Ah nh ch) (.slice none 0 0)))
    (y0 y1 y2 y3 y4 y5 y6 y10 y11 y12 y13 y14 y15 y17 y18 y19 y20 y21 y22 y23 y24 y25 y26 y27 y28 y29 y30 y31 y32 y33 y34 y35 y36 y37 y38 y39 y40 y41 y42 y43 y44 y45 y46 y47 y48 y49 y50 y51 y52 y53 y54 y55 y56 y57 y58 y59 y60 y61 y62 y63 y64 y65 y66 y67 y68 y69 y70 y71 y72 y73 y74 y75 y76 y77 y78 y79 y80 y81 y82 y83 y84 y85 y86 y87 y88 y89 y90 y91 y92 y93 y94 y95 y96 y97 y98 y99 y100 y101 y102 y103 y104 y105 y106 y107 y108 y109 y110 y111 y112 y113 y114 y115 y116 y117 y118 y119 y120 y121 y122 y123 y124 y125 y126 y127 y128 y129 y130 y131 y132 y133 y134 y135 y136 y137 y138 y139 y140 y141 y142 y143 y144 y145 y146 y147 y148 y149 y150 y151 y152 y153 y154 y155 y156 y157 y158 y159 y160 y161 y162 y163 y164 y165 y166 y167 y168 y169 y170 y171 y172 y173 y174 y175 y176 y177 y178 y179 y180 y181 y182 y183 y184 y185 y186 y187 y188 y189 y190 y191 y192 y193 y194 y195 y196 y197 y198 y199 y200 y201 : Value) (Q : Exit → Act → World → Prop)
    (HQ : Hid (∀ w' : World, (∃ (k a3 co : Nat) (bd : Bool) (Ao : Option Addr) (xs : List Int), k ≤ ni ∧ Hid (QG (gMsg okQ Li 0) bd ((fun (route : List Int) (a : Nat) => some ((⟨kind, fs, fn, ts, tn, id, mn, fo, code, key, recs, vec, path, hashes, route⟩ : Mg), a)) xs a3)) ∧ Hid (World.ownsRow w' wLo.heap.size 3 1 (.slice Ao k co) k (xs.map (Value.int .i64))) ∧ Hid (MSt wb w' r g2 g8 Ai ni ci Li a3 bd (.int .i64 kind) (.int .i64 fs) (.int .i64 fn) (.int .i64 ts) (.int .i64 tn) (.int .i64 id) (.int .i64 mn) (.int .i64 fo) (.int .i64 code) (.string key) (.slice Ar nr cr) (.slice Av nv cv) (.slice Ap np cp) (.slice Ah nh ch) (.slice Ao k co)) ∧ Hid (Fr (fun i => i = r ∨ i = g8) wLo w')) → ∀ z16 z157 z158 z159 z160 z161 z162 z163 z164 z165 z166 z167 z168 z169 z170 z171 z172 z173 z174 z175 : Value, Q .normal ⟨#[y0, y1, y2, y3, y4, y5, y6, .pointer (some ⟨r, 0, none⟩), .pointer (some ⟨g8, 0, none⟩), .int .i64 (mo : Int), y10, y11, y12, y13, y14, y15, z16, y17, y18, y19, y20, y21, y22, y23, y24, y25, y26, y27, y28, y29, y30, y31, y32, y33, y34, y35, y36, y37, y38, y39, y40, y41, y42, y43, y44, y45, y46, y47, y48, y49, y50, y51, y52, y53, y54, y55, y56, y57, y58, y59, y60, y61, y62, y63, y64, y65, y66, y67, y68, y69, y70, y71, y72, y73, y74, y75, y76, y77, y78, y79, y80, y81, y82, y83, y84, y85, y86, y87, y88, y89, y90, y91, y92, y93, y94, y95, y96, y97, y98, y99, y100, y101, y102, y103, y104, y105, y106, y107, y108, y109, y110, y111, y112, y113, y114, y115, y116, y117, y118, y119, y120, y121, y122, y123, y124, y125, y126, y127, y128, y129, y130, y131, y132, y133, y134, y135, y136, y137, y138, y139, y140, y141, y142, y143, y144, y145, y146, y147, y148, y149, y150, y151, y152, y153, y154, y155, y156, z157, z158, z159, z160, z161, z162, z163, z164, z165, z166, z167, z168, z169, z170, z171, z172, z173, z174, z175, y176, y177, y178, y179, y180, y181, y182, y183, y184, y185, y186, y187, y188, y189, y190, y191, y192, y193, y194, y195, y196, y197, y198, y199, y200, y201], []⟩ w')) :
    Code.wp Try.prog rmBlk_o Q ⟨#[y0, y1, y2, y3, y4, y5, y6, .pointer (some ⟨r, 0, none⟩), .pointer (some ⟨g8, 0, none⟩), .int .i64 (mo : Int), y10, y11, y12, y13, y14, y15, .int .i64 0, y17, y18, y19, y20, y21, y22, y23, y24, y25, y26, y27, y28, y29, y30, y31, y32, y33, y34, y35, y36, y37, y38, y39, y40, y41, y42, y43, y44, y45, y46, y47, y48, y49, y50, y51, y52, y53, y54, y55, y56, y57, y58, y59, y60, y61, y62, y63, y64, y65, y66, y67, y68, y69, y70, y71, y72, y73, y74, y75, y76, y77, y78, y79, y80, y81, y82, y83, y84, y85, y86, y87, y88, y89, y90, y91, y92, y93, y94, y95, y96, y97, y98, y99, y100, y101, y102, y103, y104, y105, y106, y107, y108, y109, y110, y111, y112, y113, y114, y115, y116, y117, y118, y119, y120, y121, y122, y123, y124, y125, y126, y127, y128, y129, y130, y131, y132, y133, y134, y135, y136, y137, y138, y139, y140, y141, y142, y143, y144, y145, y146, y147, y148, y149, y150, y151, y152, y153, y154, y155, y156, y157, y158, y159, y160, y161, y162, y163, y164, y165, y166, y167, y168, y169, y170, y171, y172, y173, y174, y175, y176, y177, y178, y179, y180, y181, y182, y183, y184, y185, y186, y187, y188, y189, y190, y191, y192, y193, y194, y195, y196, y197, y198, y199, y200, y201], []⟩ wLo := by
  conv in rmBlk_o => whnf
  obtain ⟨i2, li, lz0, lz1, lz2⟩ := info_parts Try.infoIntc
  have HFo := Lib.hid (Fr.refl (fun i => i = r ∨ i = g8) wLo)
  go_wp2_with fail
  go_loopg [16] mo (fun g i wr => ∃ (k a3 co : Nat) (bd : Bool) (Ao : Option Addr) (xs : List Int), i = .int .i64 (k : Int) ∧ g = mo - k ∧ k ≤ mo ∧ Hid (QL gInt (fun (route : List Int) (a : Nat) => some ((⟨kind, fs, fn, ts, tn, id, mn, fo, code, key, recs, vec, path, hashes, route⟩ : Mg), a)) Li (gMsg okQ Li 0) mo aso bd k a3 xs) ∧ Hid (World.ownsRow wr wLo.heap.size 3 1 (.slice Ao k co) k (xs.map (Value.int .i64))) ∧ Hid (MSt wb wr r g2 g8 Ai ni ci Li a3 bd (.int .i64 kind) (.int .i64 fs) (.int .i64 fn) (.int .i64 ts) (.int .i64 tn) (.int .i64 id) (.int .i64 mn) (.int .i64 fo) (.int .i64 code) (.string key) (.slice Ar nr cr) (.slice Av nv cv) (.slice Ap np cp) (.slice Ah nh ch) (.slice Ao k co)) ∧ Hid (Fr (fun i => i = r ∨ i = g8) wLo wr))
  case atStart => exact ⟨0, aso, 0, bso, none, [], rfl, rfl, Nat.zero_le _, Lib.hid (QL.start HGo.out), Lib.hid (World.ownsRow_nil _ _ _ _), HMo, HFo⟩
  case round =>
    obtain ⟨k, a3, co, bd, Ao, xs, rfl, rfl, hk, HL, HO, HM, HF⟩ := hrel
    clear HMo HFo HGo
    have cb := HM.out.st.c2
    have hszr := HF.out.size
    by_cases hlt : k < mo
    · cases bd with
      | true =>
        go_wp2_with fail
        exact HQ.out _ ⟨k, a3, co, true, Ao, xs, by omega, Lib.hid HL.out.spoilt, HO, HM, HF⟩ _ _ _ _ _ _ _ _ _ _ _ _ _ _ _ _ _ _ _ _
      | false =>
        have CW := Lib.hid (fun (W : World) (b : Below wr.heap.size wr W) => qnum_int (HM.out.st.move b))
        have p := mcell (j := 14) HM.out.b8 rfl
        go_wp2_with fail
        refine wp_region_noPanic ?_
        go_region_law (first
          | (go_simp; go_at_call 57; refine (CW.out _ (Below.refl _ wr).drew).mono ?_; rintro e w3 ⟨_, x4, a4, b4, rfl, ⟨rfl, hx0, hx1⟩, hq, f, q⟩; have f4 : Fr (fun i => i = r) wr w3 := (Fr.of_below (Below.refl _ wr).drew).on f; have hM3 := HM.out.call hq f4; have p' := mcell (j := 14) hM3.b8 rfl; have z' := frozen_of_row _ _ 14 _ _ hM3.b8; have hs3 : wLo.heap.size ≤ w3.heap.size := Nat.le_trans hszr f4.size; have hg3 : g8 < w3.heap.size := lt_of_block hM3.b8; have HX := Lib.hid (And.intro hM3 (And.intro (own_keepF HO.out f4 (fun i hi e => by have e2 : i = r := e; omega)) (fr2_trans HF.out f4))); have HQ6 := Lib.hid (HL.out.step hlt q); skip; clear hq f q f4 hM3)
          | (refine step_append_sl rfl (.tmp 170) (.tmp 173) 27 rfl wLo.heap.size 3 i2 (.int .i64 0) 1 8 Try.underlying27 li lz0 lz1 lz2 rfl (by decide) (.slice Ao k co) k (xs.map (Value.int .i64)) rfl (HX.out.2.1.alloc _) (some ⟨w3.heap.size, 0, none⟩) 1 1 [.int .i64 x4] rfl (sl_lit _ _ _ _ 1 1 _ rfl rfl rfl) (by intro u hu; simp at hu; subst hu; rfl) (by unfold maxLen; omega) (by omega) (by simp; omega) ?_; intro v5 w5 own5 g5 _; obtain ⟨A5, c5, rfl, -, -⟩ := own_slice own5; have hG := HX.out.2.1.alloc (.cells #[.int .i64 x4] 3); have b5 : Below wLo.heap.size w3 w5 := ((Below.refl _ w3).alloc hs3 _).grown g5 (by simp; omega) (fun q hq => (hG.lt q hq).1); have hM5 := HX.out.1.move b5 hlo; have p5 := mcell (j := 14) hM5.b8 rfl; have z5 := frozen_of_row _ _ 14 _ _ hM5.b8; have HM6 := Lib.hid (hM5.store 14 (.slice A5 (k + 1) c5) rfl); have HO6 := Lib.hid (show World.ownsRow _ wLo.heap.size 3 1 (.slice A5 (k + 1) c5) (k + 1) ((xs ++ [x4]).map (Value.int .i64)) from by rw [List.map_append]; exact own_keepF own5 ((Fr.refl (fun i => i = g8) w5).more (b := g8) (j := 14) rfl (.slice A5 (k + 1) c5)) (fun i hi e => by have e2 : i = g8 := e; omega)); have HF6 := Lib.hid (fr2_set (j := 14) (fr2_low HX.out.2.2 b5 (Nat.le_refl _)) (.slice A5 (k + 1) c5)); clear own5 g5 hG b5 hM5))
        all_goals refine NoPanic.normal ?_
        all_goals go_wp2
        all_goals go_roundg (mo - (k + 1))
        all_goals first
          | omega
          | exact ⟨k + 1, a4, c5, b4, A5, _, by go_num, rfl, by omega, HQ6, HO6, HM6, HF6⟩
    · obtain rfl : k = mo := by omega
      cases bd with
      | true =>
        go_wp2_with fail
        exact HQ.out _ ⟨k, a3, co, true, Ao, xs, by omega, Lib.hid HL.out.spoilt, HO, HM, HF⟩ _ _ _ _ _ _ _ _ _ _ _ _ _ _ _ _ _ _ _ _
      | false =>
        go_wp2_with fail
        exact HQ.out _ ⟨k, a3, co, false, Ao, xs, by omega, Lib.hid HL.out.fin, HO, HM, HF⟩ _ _ _ _ _ _ _ _ _ _ _ _ _ _ _ _ _ _ _ _
end Go.Proofs.Ytgnedaihchmoaaa
