/-
  firthref06.Msg: the loop over hashes. (Printed by tools/refread2.py.)
-/
import Derived.Test.YtgnedaihchmoaaaCodeRefMsgK
import Derived.Deep.LoopGhost
namespace Go.Proofs.Ytgnedaihchmoaaa
open Go.RowKit
set_option linter.unusedVariables false

set_option maxHeartbeats 20000000 in
set_option maxRecDepth 100000 in
theorem rm_loop_h {wb wLh : World} {r g2 g8 ni ci : Nat} {Ai : Option Addr} {Li : List UInt8} {mh ash : Nat} {bsh : Bool} {kind fs fn ts tn id mn fo code : Int} {key : ByteArray} {Ar : Option Addr} {nr cr : Nat} {recs : List Rc} {Av : Option Addr} {nv cv : Nat} {vec : List Int} {Ap : Option Addr} {np cp : Nat} {path : List Int} (hni : ni ≤ 1048576) (h12 : g2 < r) (h28 : r < g8) (hlh : g8 < wLh.heap.size) (hmh : mh ≤ ni)
    (HGh : Hid (QG (gMsg okQ Li 0) bsh (bindP (fun L b => pRep gHash L mh b) (fun (hashes : List Int) (a : Nat) => bindP (pTake gInt) (fun (route : List Int) (a : Nat) => some ((⟨kind, fs, fn, ts, tn, id, mn, fo, code, key, recs, vec, path, hashes, route⟩ : Mg), a)) Li a) Li ash))) (HMh : Hid (MSt wb wLh r g2 g8 Ai ni ci Li ash bsh (.int .i64 kind) (.int .i64 fs) (.int .i64 fn) (.int .i64 ts) (.int .i64 tn) (.int .i64 id) (.int .i64 mn) (.int .i64 fo) (.int .i64 code) (.string key) (.slice Ar nr cr) (.slice Av nv cv) (.slice Ap np cp) (.slice none 0 0) (.slice none 0 0)))
    (y0 y1 y2 y3 y4 y5 y6 y10 y11 y12 y14 y15 y16 y17 y18 y19 y20 y21 y22 y23 y24 y25 y26 y27 y28 y29 y30 y31 y32 y33 y34 y35 y36 y37 y38 y39 y40 y41 y42 y43 y44 y45 y46 y47 y48 y49 y50 y51 y52 y53 y54 y55 y56 y57 y58 y59 y60 y61 y62 y63 y64 y65 y66 y67 y68 y69 y70 y71 y72 y73 y74 y75 y76 y77 y78 y79 y80 y81 y82 y83 y84 y85 y86 y87 y88 y89 y90 y91 y92 y93 y94 y95 y96 y97 y98 y99 y100 y101 y102 y103 y104 y105 y106 y107 y108 y109 y110 y111 y112 y113 y114 y115 y116 y117 y118 y119 y120 y121 y122 y123 y124 y125 y126 y127 y128 y129 y130 y131 y132 y133 y134 y135 y136 y137 y138 y139 y140 y141 y142 y143 y144 y145 y146 y147 y148 y149 y150 y151 y152 y153 y154 y155 y156 y157 y158 y159 y160 y161 y162 y163 y164 y165 y166 y167 y168 y169 y170 y171 y172 y173 y174 y175 y176 y177 y178 y179 y180 y181 y182 y183 y184 y185 y186 y187 y188 y189 y190 y191 y192 y193 y194 y195 y196 y197 y198 y199 y200 y201 : Value) (Q : Exit → Act → World → Prop)
    (HQ : Hid (∀ w' : World, (∃ (k a3 co : Nat) (bd : Bool) (Ao : Option Addr) (xs : List Int), k ≤ ni ∧ Hid (QG (gMsg okQ Li 0) bd ((fun (hashes : List Int) (a : Nat) => bindP (pTake gInt) (fun (route : List Int) (a : Nat) => some ((⟨kind, fs, fn, ts, tn, id, mn, fo, code, key, recs, vec, path, hashes, route⟩ : Mg), a)) Li a) xs a3)) ∧ Hid (World.ownsRow w' wLh.heap.size 86 1 (.slice Ao k co) k (xs.map (Value.int .u64))) ∧ Hid (∀ y ∈ xs, 0 ≤ y ∧ y < 18446744073709551616) ∧ Hid (MSt wb w' r g2 g8 Ai ni ci Li a3 bd (.int .i64 kind) (.int .i64 fs) (.int .i64 fn) (.int .i64 ts) (.int .i64 tn) (.int .i64 id) (.int .i64 mn) (.int .i64 fo) (.int .i64 code) (.string key) (.slice Ar nr cr) (.slice Av nv cv) (.slice Ap np cp) (.slice Ao k co) (.slice none 0 0)) ∧ Hid (Fr (fun i => i = r ∨ i = g8) wLh w')) → ∀ z13 z14 z15 z119 z120 z121 z122 z123 z124 z125 z126 z127 z128 z129 z130 z131 z132 z133 z134 z135 z136 z137 z138 z139 z140 z141 z142 z143 z144 z145 z146 z147 z148 z149 z150 z151 z152 z153 z154 : Value, Q .normal ⟨#[y0, y1, y2, y3, y4, y5, y6, .pointer (some ⟨r, 0, none⟩), .pointer (some ⟨g8, 0, none⟩), .int .i64 (mh : Int), y10, y11, y12, z13, z14, z15, y16, y17, y18, y19, y20, y21, y22, y23, y24, y25, y26, y27, y28, y29, y30, y31, y32, y33, y34, y35, y36, y37, y38, y39, y40, y41, y42, y43, y44, y45, y46, y47, y48, y49, y50, y51, y52, y53, y54, y55, y56, y57, y58, y59, y60, y61, y62, y63, y64, y65, y66, y67, y68, y69, y70, y71, y72, y73, y74, y75, y76, y77, y78, y79, y80, y81, y82, y83, y84, y85, y86, y87, y88, y89, y90, y91, y92, y93, y94, y95, y96, y97, y98, y99, y100, y101, y102, y103, y104, y105, y106, y107, y108, y109, y110, y111, y112, y113, y114, y115, y116, y117, y118, z119, z120, z121, z122, z123, z124, z125, z126, z127, z128, z129, z130, z131, z132, z133, z134, z135, z136, z137, z138, z139, z140, z141, z142, z143, z144, z145, z146, z147, z148, z149, z150, z151, z152, z153, z154, y155, y156, y157, y158, y159, y160, y161, y162, y163, y164, y165, y166, y167, y168, y169, y170, y171, y172, y173, y174, y175, y176, y177, y178, y179, y180, y181, y182, y183, y184, y185, y186, y187, y188, y189, y190, y191, y192, y193, y194, y195, y196, y197, y198, y199, y200, y201], []⟩ w')) :
    Code.wp Try.prog rmBlk_h Q ⟨#[y0, y1, y2, y3, y4, y5, y6, .pointer (some ⟨r, 0, none⟩), .pointer (some ⟨g8, 0, none⟩), .int .i64 (mh : Int), y10, y11, y12, .int .i64 0, y14, y15, y16, y17, y18, y19, y20, y21, y22, y23, y24, y25, y26, y27, y28, y29, y30, y31, y32, y33, y34, y35, y36, y37, y38, y39, y40, y41, y42, y43, y44, y45, y46, y47, y48, y49, y50, y51, y52, y53, y54, y55, y56, y57, y58, y59, y60, y61, y62, y63, y64, y65, y66, y67, y68, y69, y70, y71, y72, y73, y74, y75, y76, y77, y78, y79, y80, y81, y82, y83, y84, y85, y86, y87, y88, y89, y90, y91, y92, y93, y94, y95, y96, y97, y98, y99, y100, y101, y102, y103, y104, y105, y106, y107, y108, y109, y110, y111, y112, y113, y114, y115, y116, y117, y118, y119, y120, y121, y122, y123, y124, y125, y126, y127, y128, y129, y130, y131, y132, y133, y134, y135, y136, y137, y138, y139, y140, y141, y142, y143, y144, y145, y146, y147, y148, y149, y150, y151, y152, y153, y154, y155, y156, y157, y158, y159, y160, y161, y162, y163, y164, y165, y166, y167, y168, y169, y170, y171, y172, y173, y174, y175, y176, y177, y178, y179, y180, y181, y182, y183, y184, y185, y186, y187, y188, y189, y190, y191, y192, y193, y194, y195, y196, y197, y198, y199, y200, y201], []⟩ wLh := by
  conv in rmBlk_h => whnf
  obtain ⟨i3, ki, kz0, kz1, kz2⟩ := info_parts Try.infoU64c
  have HFh := Lib.hid (Fr.refl (fun i => i = r ∨ i = g8) wLh)
  go_wp2_with fail
  go_loopg [13] mh (fun g i wr => ∃ (k a3 co : Nat) (bd : Bool) (Ao : Option Addr) (xs : List Int), i = .int .i64 (k : Int) ∧ g = mh - k ∧ k ≤ mh ∧ Hid (QL gHash (fun (hashes : List Int) (a : Nat) => bindP (pTake gInt) (fun (route : List Int) (a : Nat) => some ((⟨kind, fs, fn, ts, tn, id, mn, fo, code, key, recs, vec, path, hashes, route⟩ : Mg), a)) Li a) Li (gMsg okQ Li 0) mh ash bd k a3 xs) ∧ Hid (World.ownsRow wr wLh.heap.size 86 1 (.slice Ao k co) k (xs.map (Value.int .u64))) ∧ Hid (∀ y ∈ xs, 0 ≤ y ∧ y < 18446744073709551616) ∧ Hid (MSt wb wr r g2 g8 Ai ni ci Li a3 bd (.int .i64 kind) (.int .i64 fs) (.int .i64 fn) (.int .i64 ts) (.int .i64 tn) (.int .i64 id) (.int .i64 mn) (.int .i64 fo) (.int .i64 code) (.string key) (.slice Ar nr cr) (.slice Av nv cv) (.slice Ap np cp) (.slice Ao k co) (.slice none 0 0)) ∧ Hid (Fr (fun i => i = r ∨ i = g8) wLh wr))
  case atStart => exact ⟨0, ash, 0, bsh, none, [], rfl, rfl, Nat.zero_le _, Lib.hid (QL.start HGh.out), Lib.hid (World.ownsRow_nil _ _ _ _), Lib.hid (fun y hy => by cases hy), HMh, HFh⟩
  case round =>
    obtain ⟨k, a3, co, bd, Ao, xs, rfl, rfl, hk, HL, HO, HHS, HM, HF⟩ := hrel
    clear HMh HFh HGh
    have cb := HM.out.st.c2
    have hszr := HF.out.size
    by_cases hlt : k < mh
    · cases bd with
      | true =>
        go_wp2_with fail
        exact HQ.out _ ⟨k, a3, co, true, Ao, xs, by omega, Lib.hid HL.out.spoilt, HO, HHS, HM, HF⟩ _ _ _ _ _ _ _ _ _ _ _ _ _ _ _ _ _ _ _ _ _ _ _ _ _ _ _ _ _ _ _ _ _ _ _ _ _ _ _
      | false =>
        have C3 := Lib.hid (qnum_nat HM.out.st)
        have HGq := Lib.hid (show QG (startO (gHash Li a3) false) false (bindP pNum (fun h a1 => bindP pNum (fun l a2 => if h < 4294967296 ∧ l < 4294967296 then some ((h : Int) * 4294967296 + (l : Int), a2) else none) Li a1) Li a3) from QG.start _ _)
        go_wp2_with fail
        refine C3.out.mono ?_
        rintro e w3 ⟨_, hh, a4, b4, rfl, ⟨rfl, hhb⟩, hq, f, q⟩
        have HM3 := Lib.hid (HM.out.call hq f)
        have HF3 := Lib.hid (fr2_trans HF.out f)
        have HO3 := Lib.hid (own_keepF HO.out f (fun i hi e => by have e2 : i = r := e; omega))
        have HG3 := Lib.hid (HGq.out.step q)
        have C4 := Lib.hid (qnum_nat HM3.out.st)
        clear hq f q C3 HGq cb
        go_wp2_with fail
        refine C4.out.mono ?_
        rintro e w4 ⟨_, ll, a5, b5, rfl, ⟨rfl, hlb⟩, hq, f, q⟩
        have HM4 := Lib.hid (HM3.out.call hq f)
        have HF4 := Lib.hid (fr2_trans HF3.out f)
        have HO4 := Lib.hid (own_keepF HO3.out f (fun i hi e => by have e2 : i = r := e; omega))
        have hg4 : QG (startO (gHash Li a3) false) b5 (if hh < 4294967296 ∧ ll < 4294967296 then some ((hh : Int) * 4294967296 + (ll : Int), a5) else none) := HG3.out.step q
        have HG4 := Lib.hid hg4
        clear hq f q C4 HG3 HM3 HF3 HO3 hg4
        have hs4 : wLh.heap.size ≤ w4.heap.size := HF4.out.size
        have hg4 : g8 < w4.heap.size := lt_of_block HM4.out.b8
        by_cases hgood : hh < 4294967296 ∧ ll < 4294967296
        · obtain ⟨h1, h2⟩ := hgood
          have t1 : decide ((hh : Int) > 4294967295) = false := decide_eq_false (by omega)
          have t2 : decide ((ll : Int) > 4294967295) = false := decide_eq_false (by omega)
          have hgb := HG4.out
          rw [if_pos ⟨h1, h2⟩] at hgb
          have HQR := Lib.hid (show QRes (gHash Li a3) false ((hh : Int) * 4294967296 + (ll : Int)) a5 b5 from hgb.res)
          have HXB := Lib.hid (show 0 ≤ (hh : Int) * 4294967296 + (ll : Int) ∧ (hh : Int) * 4294967296 + (ll : Int) < 18446744073709551616 from by omega)
          clear hgb
          have p4 := mcell (j := 13) HM4.out.b8 rfl
          go_wp2_with (first | (at_builtin; refine wpList_append_sl _ rfl (.tmp 145) (.tmp 152) 28 rfl (wLh.heap.size) 86 i3 (.int .u64 0) 1 8 Try.underlying28 ki kz0 kz1 kz2 rfl (by decide) (.slice Ao k co) (k) (xs.map (Value.int .u64)) rfl (HO4.out.alloc _) (some ⟨w4.heap.size, 0, none⟩) (1) (1) [.int .u64 ((hh : Int) * 4294967296 + (ll : Int))] rfl (sl_lit _ _ _ _ 1 1 _ (by first | rfl | simp) rfl rfl) (by intro u hu; simp at hu; subst hu; rfl) (by unfold maxLen; omega) (by omega) (by simp; omega) ?_) | fail)
          intro v5 w5 own5 g5 _
          obtain ⟨A5, c5, rfl, -, -⟩ := own_slice own5
          have hG := HO4.out.alloc (.cells #[.int .u64 ((hh : Int) * 4294967296 + (ll : Int))] 86)
          have b5 : Below wLh.heap.size w4 w5 := ((Below.refl _ w4).alloc (by first | omega | (simp; omega)) _).grown g5 (by simp; omega) (fun q hq => (hG.lt q hq).1)
          have hM5 := HM4.out.move b5 hlh
          have p5 := mcell (j := 13) hM5.b8 rfl
          have z5 := frozen_of_row _ _ 13 _ _ hM5.b8
          have HM6 := Lib.hid (hM5.store 13 (.slice A5 (k + 1) c5) rfl)
          have HO6 := Lib.hid (show World.ownsRow _ wLh.heap.size 86 1 (.slice A5 (k + 1) c5) (k + 1) ((xs ++ [(hh : Int) * 4294967296 + (ll : Int)]).map (Value.int .u64)) from by rw [List.map_append]; exact own_keepF own5 ((Fr.refl (fun i => i = g8) w5).more (b := g8) (j := 13) rfl (.slice A5 (k + 1) c5)) (fun i hi e => by have e2 : i = g8 := e; omega))
          have HF6 := Lib.hid (fr2_set (j := 13) (fr2_low HF4.out b5 (Nat.le_refl _)) (.slice A5 (k + 1) c5))
          have HQ6 := Lib.hid (HL.out.step hlt HQR.out)
          have HHS6 := Lib.hid (fun (y : Int) (hy : y ∈ xs ++ [(hh : Int) * 4294967296 + (ll : Int)]) => show 0 ≤ y ∧ y < 18446744073709551616 from by
            rcases List.mem_append.1 hy with hy | hy
            · exact HHS.out y hy
            · rw [List.mem_singleton.1 hy]; exact HXB.out)
          clear own5 g5 hG b5 hM5 p4 HM4 HO4 HF4
          go_wp2
          go_roundg (mh - (k + 1))
          all_goals first
            | omega
            | exact ⟨k + 1, a5, c5, b5, A5, _, by go_num, rfl, by omega, HQ6, HO6, HHS6, HM6, HF6⟩
        · rcases (show 4294967296 ≤ hh ∨ (hh < 4294967296 ∧ 4294967296 ≤ ll) by omega) with h1 | ⟨h1, h2⟩
          · have t1 : decide ((hh : Int) > 4294967295) = true := decide_eq_true (by omega)
            have ur := HM4.out.st.c2
            have zr := HM4.out.st.fr 2
            have HMb := Lib.hid HM4.out.spoil
            have HFb := Lib.hid (HF4.out.more (b := r) (j := 2) (.inl rfl) (.bool true))
            have HOb := Lib.hid (own_keepF HO4.out ((Fr.refl (fun i => i = r) w4).more (b := r) (j := 2) rfl (.bool true)) (fun i hi e => by have e2 : i = r := e; omega))
            have hgb := HG4.out
            rw [if_neg (by omega)] at hgb
            have HQR := Lib.hid (show QRes (gHash Li a3) false (IntKind.u64.wrap (IntKind.u64.wrap ((hh : Int) * 4294967296) + (ll : Int))) a5 true from (hgb.spoil (y := some (IntKind.u64.wrap (IntKind.u64.wrap ((hh : Int) * 4294967296) + (ll : Int)), a5))).res)
            have HXB := Lib.hid (show 0 ≤ IntKind.u64.wrap (IntKind.u64.wrap ((hh : Int) * 4294967296) + (ll : Int)) ∧ IntKind.u64.wrap (IntKind.u64.wrap ((hh : Int) * 4294967296) + (ll : Int)) < 18446744073709551616 from by rw [IntKind.wrap_u64]; omega)
            clear hgb HM4 HF4 HO4
            have p4 := mcell (j := 13) HMb.out.b8 rfl
            go_wp2_with (first | (at_builtin; refine wpList_append_sl _ rfl (.tmp 145) (.tmp 152) 28 rfl (wLh.heap.size) 86 i3 (.int .u64 0) 1 8 Try.underlying28 ki kz0 kz1 kz2 rfl (by decide) (.slice Ao k co) (k) (xs.map (Value.int .u64)) rfl (HOb.out.alloc _) (some ⟨w4.heap.size, 0, none⟩) (1) (1) [.int .u64 (IntKind.u64.wrap (IntKind.u64.wrap ((hh : Int) * 4294967296) + (ll : Int)))] rfl (sl_lit _ _ _ _ 1 1 _ (by first | rfl | simp) rfl rfl) (by intro u hu; simp at hu; subst hu; rfl) (by unfold maxLen; omega) (by omega) (by simp; omega) ?_) | fail)
            intro v5 w5 own5 g5 _
            obtain ⟨A5, c5, rfl, -, -⟩ := own_slice own5
            have hG := HOb.out.alloc (.cells #[.int .u64 (IntKind.u64.wrap (IntKind.u64.wrap ((hh : Int) * 4294967296) + (ll : Int)))] 86)
            have b5 : Below wLh.heap.size (w4.setCell ⟨r, 2, none⟩ (.bool true)) w5 := ((Below.refl _ (w4.setCell ⟨r, 2, none⟩ (.bool true))).alloc (by first | omega | (simp; omega)) _).grown g5 (by simp; omega) (fun q hq => (hG.lt q hq).1)
            have hM5 := HMb.out.move b5 hlh
            have p5 := mcell (j := 13) hM5.b8 rfl
            have z5 := frozen_of_row _ _ 13 _ _ hM5.b8
            have HM6 := Lib.hid (hM5.store 13 (.slice A5 (k + 1) c5) rfl)
            have HO6 := Lib.hid (show World.ownsRow _ wLh.heap.size 86 1 (.slice A5 (k + 1) c5) (k + 1) ((xs ++ [IntKind.u64.wrap (IntKind.u64.wrap ((hh : Int) * 4294967296) + (ll : Int))]).map (Value.int .u64)) from by rw [List.map_append]; exact own_keepF own5 ((Fr.refl (fun i => i = g8) w5).more (b := g8) (j := 13) rfl (.slice A5 (k + 1) c5)) (fun i hi e => by have e2 : i = g8 := e; omega))
            have HF6 := Lib.hid (fr2_set (j := 13) (fr2_low HFb.out b5 (Nat.le_refl _)) (.slice A5 (k + 1) c5))
            have HQ6 := Lib.hid (HL.out.step hlt HQR.out)
            have HHS6 := Lib.hid (fun (y : Int) (hy : y ∈ xs ++ [IntKind.u64.wrap (IntKind.u64.wrap ((hh : Int) * 4294967296) + (ll : Int))]) => show 0 ≤ y ∧ y < 18446744073709551616 from by
              rcases List.mem_append.1 hy with hy | hy
              · exact HHS.out y hy
              · rw [List.mem_singleton.1 hy]; exact HXB.out)
            clear own5 g5 hG b5 hM5 p4 HMb HOb HFb
            go_wp2
            go_roundg (mh - (k + 1))
            all_goals first
              | omega
              | exact ⟨k + 1, a5, c5, true, A5, _, by go_num, rfl, by omega, HQ6, HO6, HHS6, HM6, HF6⟩
          · have t1 : decide ((hh : Int) > 4294967295) = false := decide_eq_false (by omega)
            have t2 : decide ((ll : Int) > 4294967295) = true := decide_eq_true (by omega)
            have ur := HM4.out.st.c2
            have zr := HM4.out.st.fr 2
            have HMb := Lib.hid HM4.out.spoil
            have HFb := Lib.hid (HF4.out.more (b := r) (j := 2) (.inl rfl) (.bool true))
            have HOb := Lib.hid (own_keepF HO4.out ((Fr.refl (fun i => i = r) w4).more (b := r) (j := 2) rfl (.bool true)) (fun i hi e => by have e2 : i = r := e; omega))
            have hgb := HG4.out
            rw [if_neg (by omega)] at hgb
            have HQR := Lib.hid (show QRes (gHash Li a3) false (IntKind.u64.wrap ((hh : Int) * 4294967296 + (ll : Int))) a5 true from (hgb.spoil (y := some (IntKind.u64.wrap ((hh : Int) * 4294967296 + (ll : Int)), a5))).res)
            have HXB := Lib.hid (show 0 ≤ IntKind.u64.wrap ((hh : Int) * 4294967296 + (ll : Int)) ∧ IntKind.u64.wrap ((hh : Int) * 4294967296 + (ll : Int)) < 18446744073709551616 from by rw [IntKind.wrap_u64]; omega)
            clear hgb HM4 HF4 HO4
            have p4 := mcell (j := 13) HMb.out.b8 rfl
            go_wp2_with (first | (at_builtin; refine wpList_append_sl _ rfl (.tmp 145) (.tmp 152) 28 rfl (wLh.heap.size) 86 i3 (.int .u64 0) 1 8 Try.underlying28 ki kz0 kz1 kz2 rfl (by decide) (.slice Ao k co) (k) (xs.map (Value.int .u64)) rfl (HOb.out.alloc _) (some ⟨w4.heap.size, 0, none⟩) (1) (1) [.int .u64 (IntKind.u64.wrap ((hh : Int) * 4294967296 + (ll : Int)))] rfl (sl_lit _ _ _ _ 1 1 _ (by first | rfl | simp) rfl rfl) (by intro u hu; simp at hu; subst hu; rfl) (by unfold maxLen; omega) (by omega) (by simp; omega) ?_) | fail)
            intro v5 w5 own5 g5 _
            obtain ⟨A5, c5, rfl, -, -⟩ := own_slice own5
            have hG := HOb.out.alloc (.cells #[.int .u64 (IntKind.u64.wrap ((hh : Int) * 4294967296 + (ll : Int)))] 86)
            have b5 : Below wLh.heap.size (w4.setCell ⟨r, 2, none⟩ (.bool true)) w5 := ((Below.refl _ (w4.setCell ⟨r, 2, none⟩ (.bool true))).alloc (by first | omega | (simp; omega)) _).grown g5 (by simp; omega) (fun q hq => (hG.lt q hq).1)
            have hM5 := HMb.out.move b5 hlh
            have p5 := mcell (j := 13) hM5.b8 rfl
            have z5 := frozen_of_row _ _ 13 _ _ hM5.b8
            have HM6 := Lib.hid (hM5.store 13 (.slice A5 (k + 1) c5) rfl)
            have HO6 := Lib.hid (show World.ownsRow _ wLh.heap.size 86 1 (.slice A5 (k + 1) c5) (k + 1) ((xs ++ [IntKind.u64.wrap ((hh : Int) * 4294967296 + (ll : Int))]).map (Value.int .u64)) from by rw [List.map_append]; exact own_keepF own5 ((Fr.refl (fun i => i = g8) w5).more (b := g8) (j := 13) rfl (.slice A5 (k + 1) c5)) (fun i hi e => by have e2 : i = g8 := e; omega))
            have HF6 := Lib.hid (fr2_set (j := 13) (fr2_low HFb.out b5 (Nat.le_refl _)) (.slice A5 (k + 1) c5))
            have HQ6 := Lib.hid (HL.out.step hlt HQR.out)
            have HHS6 := Lib.hid (fun (y : Int) (hy : y ∈ xs ++ [IntKind.u64.wrap ((hh : Int) * 4294967296 + (ll : Int))]) => show 0 ≤ y ∧ y < 18446744073709551616 from by
              rcases List.mem_append.1 hy with hy | hy
              · exact HHS.out y hy
              · rw [List.mem_singleton.1 hy]; exact HXB.out)
            clear own5 g5 hG b5 hM5 p4 HMb HOb HFb
            go_wp2
            go_roundg (mh - (k + 1))
            all_goals first
              | omega
              | exact ⟨k + 1, a5, c5, true, A5, _, by go_num, rfl, by omega, HQ6, HO6, HHS6, HM6, HF6⟩
    · obtain rfl : k = mh := by omega
      cases bd with
      | true =>
        go_wp2_with fail
        exact HQ.out _ ⟨k, a3, co, true, Ao, xs, by omega, Lib.hid HL.out.spoilt, HO, HHS, HM, HF⟩ _ _ _ _ _ _ _ _ _ _ _ _ _ _ _ _ _ _ _ _ _ _ _ _ _ _ _ _ _ _ _ _ _ _ _ _ _ _ _
      | false =>
        go_wp2_with fail
        exact HQ.out _ ⟨k, a3, co, false, Ao, xs, by omega, Lib.hid HL.out.fin, HO, HHS, HM, HF⟩ _ _ _ _ _ _ _ _ _ _ _ _ _ _ _ _ _ _ _ _ _ _ _ _ _ _ _ _ _ _ _ _ _ _ _ _ _ _ _
end Go.Proofs.Ytgnedaihchmoaaa
