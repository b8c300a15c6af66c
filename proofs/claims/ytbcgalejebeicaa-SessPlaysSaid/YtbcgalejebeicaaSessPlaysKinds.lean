/-
  The walk of firthlaw21.SessPlays.
-/
import Derived.Test.YtbcgalejebeicaaSessBoth
import Derived.Test.YtbcgalejebeicaaSameInts
import Derived.Test.YtbcgalejebeicaaShape
import Derived.OpenShut
import Derived.Deep.RegionHeld3
import Derived.Deep.LoopGhost
import Derived.Deep.CutBlock
import Derived.Deep.DeepCutAuto
import Derived.Deep.QuietTactic
import Derived.BigQuiet
namespace Go.Proofs.Ytbcgalejebeicaa
open Go.RowKit
set_option linter.unusedVariables false

theorem Sl.fr' {w w' : World} {A : Option Addr} {n sz : Nat} {xs : List Value} {fp : Nat → Prop} (h : Sl w A n sz xs) (F : Fr fp w w') (hf : ∀ b, fp b → w.heap.size ≤ b) : Sl w' A n sz xs :=
  h.below (F.below hf (Nat.le_refl _))
theorem Fr.cell' {w w' : World} {q : Addr} {v : Value} (F : Fr (fun b => ¬ b < w.heap.size) w w') (h : w.cell? q = some v) : w'.cell? q = some v :=
  ((F.toBelow).cell (World.block_lt_of_cell? w q h)).trans h
abbrev opSh : Sh := .pair (.int .i64) (.pair (.int .i64) (.pair (.int .i64) (.pair (.int .i64) (.sl 1 .u8))))
theorem op_at {w : World} {A : Option Addr} {n c k : Nat} {ls : List opSh.T} (r : Rd w (.sl 56 opSh) [.slice A n c] ls) (hk : k < n) :
    ∃ (g off : Nat) (kd nn st op : Int) (At : Option Addr) (nt ct : Nat) (tok : List UInt8), A = some ⟨g, off, none⟩ ∧ w.cell? ⟨g, off + k * 5, none⟩ = some (.int .i64 kd) ∧ w.cell? ⟨g, off + k * 5 + 1, none⟩ = some (.int .i64 nn) ∧ w.cell? ⟨g, off + k * 5 + 2, none⟩ = some (.int .i64 st) ∧
      w.cell? ⟨g, off + k * 5 + 3, none⟩ = some (.int .i64 op) ∧ w.cell? ⟨g, off + k * 5 + 4, none⟩ = some (.slice At nt ct) ∧ (Lit.int .i64 op).wf = true ∧ SlB w At nt tok ∧ nt ≤ ct ∧ nt ≤ 140737488351232 := by
  obtain ⟨_, _, _, _, h⟩ := r.elem
  obtain ⟨g, off, x, xs, rfl, _, _, hc, hx⟩ := h k hk
  obtain ⟨kd, nn, st, op, tok⟩ := x
  obtain ⟨c1, c2, rfl, ⟨rfl, _⟩, d1, d2, rfl, ⟨rfl, _⟩, e1, e2, rfl, ⟨rfl, _⟩, f1, f2, rfl, ⟨rfl, hw⟩, ht⟩ := hx
  obtain ⟨At, nt, ct, rfl, _⟩ := id ht
  have hb := Rd.bytes ht
  exact ⟨g, off, kd, nn, st, op, At, nt, ct, tok, rfl, hc 0 _ rfl, hc 1 _ rfl, hc 2 _ rfl, hc 3 _ rfl, hc 4 _ rfl, hw, hb.1, hb.2.1, by have := hb.2.1; have := hb.2.2; omega⟩
theorem openL_len (sites : Int) (l : List Ses) (s : Int) : (openL sites l s).length ≤ l.length + 1 := by unfold openL; split <;> simp
theorem beginL_len (l : List Ses) (n op : Int) : (beginL l n op).length = l.length := by
  unfold beginL; split
  · rfl
  · repeat' (split <;> try rfl)
    simp
theorem endL_len (l : List Ses) (op : Int) (tok : List UInt8) : (endL l op tok).length = l.length := by
  unfold endL; split
  · rfl
  · split
    · rfl
    · simp
theorem goL_len (sites : Int) (l : List Ses) (n s : Int) : (goL sites l n s).length = l.length := by
  unfold goL; split
  · rfl
  · repeat' (split <;> try rfl)
    simp
theorem lostL_len (l : List Ses) (s : Int) : (lostL l s).length = l.length := by simp [lostL]
theorem getS_get {l : List Ses} {k : Nat} {x : Ses} (hx : l[k]? = some x) : getS l ((k : Int) + 1) = some x := by
  unfold getS
  rw [if_pos (by omega), show ((k : Int) + 1).toNat - 1 = k by omega, hx]
theorem getS_zero (l : List Ses) : getS l 0 = none := by unfold getS; rw [if_neg (by omega)]
theorem getS_past (l : List Ses) : getS l ((l.length : Int) + 1) = none := by
  unfold getS
  rw [if_pos (by omega), show ((l.length : Int) + 1).toNat - 1 = l.length by omega]
  simp

/-- What the document's answer starts as. -/
theorem bothNew {w1 w2 : World} {p : Nat} {sites : Int} (h : SessP (fun b => b < w1.heap.size) w1 w2 p sites [] 0) :
    Both (fun b => b < w1.heap.size) w1 (w2.alloc (.cells #[.int .i64 sites, .slice none 0 0] 45)) p w2.heap.size sites [] [] 0 := by
  obtain ⟨G, fs, hG, h1, h2, h3, h4⟩ := h
  have hb : Below w2.heap.size w2 (w2.alloc (.cells #[.int .i64 sites, .slice none 0 0] 45)) := (Below.refl _ _).alloc (Nat.le_refl _) _
  have hz := h3.size
  refine ⟨G, fs, fun b => b = w2.heap.size, hG, h1.below hb, ⟨rfl, ⟨.slice none 0 0, [], heap_alloc_new _ _, World.ownsRow_nil _ _ _ _, fun g hg => by simp [Value.ownBlock] at hg, rfl, fun y hy => by simp at hy⟩, ⟨by simp, fun i j x y hx => by simp at hx⟩, fun b hb => by simp; omega⟩, fun b hb hb' => ?_, h2, fun b hb hK => ?_, h3.trans (Fr.of_below hb (fp := fun _ => False)) (fun _ h => h.elim), h4⟩
  · have := h1.lt b hb
    omega
  · omega

theorem Calls.quiet_same' {P : Program} {f : FuncId} {args : Array Value} {w : World} {n : Nat} {v : Value}
    (h : Calls P f args (w.drewN n) fun e w' => e = .returned v ∧ w.drewN n = w') : Calls P f args (w.drewN n) fun e w'' => e = .returned v ∧ ∃ m, w'' = w.drewN m :=
  Calls.quiet_of_same (h.mono fun _ _ ⟨a, b⟩ => ⟨a, b.symm⟩)
/-- A part of a function's code. -/
def sndS : Code → Code
  | .seq _ b => b
  | c => c
def fstS : Code → Code
  | .seq a _ => a
  | c => c
def inS : Code → Code
  | .block _ c => c
  | .loop c => c
  | c => c
def bodyS (f : Func) : Code := match f.body with
  | some c => c
  | none => .skip
/-- SessPlays' round. -/
noncomputable def playsRound : Code := inS (fstS (sndS (inS (inS (sndS (fstS (sndS (sndS (sndS (sndS (sndS (bodyS Try.f5))))))))))))
/-- SessPlays' switch. -/
noncomputable def playsBlk : Code := sndS (fstS (sndS playsRound))
set_option maxHeartbeats 20000000 in
set_option maxRecDepth 100000 in
theorem plays_kinds {p q gb N : Nat} {sites kd nn st op : Int} {l : List Ses} {m : Nat} {At : Option Addr} {nt ct : Nat} {tok : List UInt8} {wb : World} (hl : l.length ≤ 2600000000000) (hm : m ≤ 2600000000000)
    (HK : Hid (Both (fun b => b < N ∨ b = gb) wb wb p q sites l l m)) (hzb : N ≤ wb.heap.size ∧ gb < wb.heap.size)
    (HC : Hid (∀ (j : Nat) (v : Value) (hj : (#[.int .i64 kd, .int .i64 nn, .int .i64 st, .int .i64 op, .slice At nt ct] : Array Value)[j]? = some v) (w' : World) (F : Fr (fun b => ¬ (b < N ∨ b = gb)) wb w'), w'.cell? ⟨gb, j, none⟩ = some v))
    (HT : Hid (SlB wb At nt tok)) (HTB : Hid (∀ (b off : Nat) (s : Option Nat) (hn : 0 < nt) (e : At = some ⟨b, off, s⟩), b < N ∨ b = gb)) (hwf : (Lit.int .i64 op).wf = true) (hnc : nt ≤ ct) (hnt : nt ≤ 140737488351232)
    (y0 y1 y2 y3 y4 y6 y8 y10 y11 y12 y13 y14 y15 y16 y17 y18 y19 y20 y21 y22 y23 y24 y25 y26 y27 y28 y29 y30 y31 y32 y33 y34 y35 y36 y37 y38 y39 y40 y41 y42 y43 y44 y45 y46 y47 y48 y49 y50 y51 y52 y53 y54 y55 y56 y57 y58 y59 y60 y61 y62 y63 y64 y65 y66 y67 y68 y70 y71 y72 y73 y74 y75 y76 y77 y78 y79 y80 y81 y82 y83 y84 y85 y86 y87 y88 y89 y90 y91 y92 y93 y94 y95 y96 y97 y98 y99 y100 y101 y102 y103 y104 y105 y106 y107 y108 y109 y110 y111 y112 y113 y114 y115 y116 y117 y118 y119 y120 y121 y122 y123 y124 y125 y126 y127 y128 y129 y130 y131 y132 y133 y134 y135 y136 y137 y138 y139 y140 y141 y142 y143 y144 y145 y146 y147 y148 y149 y150 y151 y152 y153 y154 y155 y156 y157 y158 y159 y160 y161 y162 y163 y164 y165 y166 y167 y168 y169 y170 y171 y172 y173 y174 y175 y176 y177 y178 y179 y180 y181 y182 y183 y184 y185 y186 y187 y188 y189 y190 y191 y192 y193 y194 y195 y196 y197 y198 y199 y200 y201 y202 y203 y204 y205 y206 y207 y208 y209 y210 y211 y212 y213 y214 y215 y216 y217 y218 y219 y220 y221 y222 y223 y224 y225 y226 y227 y228 y229 y230 y231 y232 y233 y234 y235 y236 y237 y238 y239 y240 y241 y242 y243 y244 y245 y246 : Value) (Q : Exit → Act → World → Prop)
    (HQ : Hid (∀ w', (∃ (l' : List Ses) (m' : Nat), l'.length ≤ l.length + 1 ∧ m' ≤ m + 1 ∧ Both (fun b => b < N ∨ b = gb) wb w' p q sites l' l' m') → ∀ z10 z11 z12 z13 z14 z15 z16 z17 z18 z19 z20 z21 z22 z23 z70 z71 z72 z73 z74 z75 z76 z77 z78 z79 z80 z81 z82 z83 z84 z85 z86 z87 z88 z89 z90 z91 z92 z93 z94 z95 z96 z97 z98 z99 z100 z101 z102 z103 z104 z105 z106 z107 z108 z109 z110 z111 z112 z113 z114 z115 z116 z117 z118 z119 z120 z121 z122 z123 z124 z125 z126 z127 z128 z129 z130 z131 z132 z133 z134 z135 z136 z137 z138 z139 z140 z141 z142 z143 z144 z145 z146 z147 z148 z149 z150 z151 z152 z153 z154 z155 z156 z157 z158 z159 z160 z161 z162 z163 z164 z165 z166 z167 z168 z169 z170 z171 z172 z173 z174 z175 z176 z177 z178 z179 z180 z181 z182 z183 z184 z185 : Value, Q .normal ⟨#[y0, y1, y2, y3, y4, .pointer (some ⟨p, 0, none⟩), y6, .pointer (some ⟨q, 0, none⟩), y8, .pointer (some ⟨gb, 0, none⟩), z10, z11, z12, z13, z14, z15, z16, z17, z18, z19, z20, z21, z22, z23, y24, y25, y26, y27, y28, y29, y30, y31, y32, y33, y34, y35, y36, y37, y38, y39, y40, y41, y42, y43, y44, y45, y46, y47, y48, y49, y50, y51, y52, y53, y54, y55, y56, y57, y58, y59, y60, y61, y62, y63, y64, y65, y66, y67, y68, .int .i64 kd, z70, z71, z72, z73, z74, z75, z76, z77, z78, z79, z80, z81, z82, z83, z84, z85, z86, z87, z88, z89, z90, z91, z92, z93, z94, z95, z96, z97, z98, z99, z100, z101, z102, z103, z104, z105, z106, z107, z108, z109, z110, z111, z112, z113, z114, z115, z116, z117, z118, z119, z120, z121, z122, z123, z124, z125, z126, z127, z128, z129, z130, z131, z132, z133, z134, z135, z136, z137, z138, z139, z140, z141, z142, z143, z144, z145, z146, z147, z148, z149, z150, z151, z152, z153, z154, z155, z156, z157, z158, z159, z160, z161, z162, z163, z164, z165, z166, z167, z168, z169, z170, z171, z172, z173, z174, z175, z176, z177, z178, z179, z180, z181, z182, z183, z184, z185, y186, y187, y188, y189, y190, y191, y192, y193, y194, y195, y196, y197, y198, y199, y200, y201, y202, y203, y204, y205, y206, y207, y208, y209, y210, y211, y212, y213, y214, y215, y216, y217, y218, y219, y220, y221, y222, y223, y224, y225, y226, y227, y228, y229, y230, y231, y232, y233, y234, y235, y236, y237, y238, y239, y240, y241, y242, y243, y244, y245, y246], []⟩ w')) :
    Code.wp Try.prog playsBlk Q ⟨#[y0, y1, y2, y3, y4, .pointer (some ⟨p, 0, none⟩), y6, .pointer (some ⟨q, 0, none⟩), y8, .pointer (some ⟨gb, 0, none⟩), y10, y11, y12, y13, y14, y15, y16, y17, y18, y19, y20, y21, y22, y23, y24, y25, y26, y27, y28, y29, y30, y31, y32, y33, y34, y35, y36, y37, y38, y39, y40, y41, y42, y43, y44, y45, y46, y47, y48, y49, y50, y51, y52, y53, y54, y55, y56, y57, y58, y59, y60, y61, y62, y63, y64, y65, y66, y67, y68, .int .i64 kd, y70, y71, y72, y73, y74, y75, y76, y77, y78, y79, y80, y81, y82, y83, y84, y85, y86, y87, y88, y89, y90, y91, y92, y93, y94, y95, y96, y97, y98, y99, y100, y101, y102, y103, y104, y105, y106, y107, y108, y109, y110, y111, y112, y113, y114, y115, y116, y117, y118, y119, y120, y121, y122, y123, y124, y125, y126, y127, y128, y129, y130, y131, y132, y133, y134, y135, y136, y137, y138, y139, y140, y141, y142, y143, y144, y145, y146, y147, y148, y149, y150, y151, y152, y153, y154, y155, y156, y157, y158, y159, y160, y161, y162, y163, y164, y165, y166, y167, y168, y169, y170, y171, y172, y173, y174, y175, y176, y177, y178, y179, y180, y181, y182, y183, y184, y185, y186, y187, y188, y189, y190, y191, y192, y193, y194, y195, y196, y197, y198, y199, y200, y201, y202, y203, y204, y205, y206, y207, y208, y209, y210, y211, y212, y213, y214, y215, y216, y217, y218, y219, y220, y221, y222, y223, y224, y225, y226, y227, y228, y229, y230, y231, y232, y233, y234, y235, y236, y237, y238, y239, y240, y241, y242, y243, y244, y245, y246], []⟩ wb := by
  conv in playsBlk => whnf
  have b0 := HC.out 0 _ rfl wb (Fr.refl _ _)
  have b1 := HC.out 1 _ rfl wb (Fr.refl _ _)
  have b2 := HC.out 2 _ rfl wb (Fr.refl _ _)
  have b3 := HC.out 3 _ rfl wb (Fr.refl _ _)
  have b4 := HC.out 4 _ rfl wb (Fr.refl _ _)
  by_cases k1 : kd = 1
  · subst k1
    have C := Lib.hid (openB st HK.out (by omega))
    go_wp2_with fail
    refine C.out.mono ?_
    rintro e w3 ⟨rfl, H3⟩
    have b3 := HC.out 2 _ rfl _ H3.fr
    have C3 := Lib.hid (openRB st H3 (by omega))
    have hn := openL_len sites l st
    clear C H3
    go_wp2_with fail
    refine C3.out.mono ?_
    rintro e w4 ⟨rfl, H4⟩
    have HH4 := Lib.hid H4
    clear C3 H4
    go_wp2
    exact HQ.out _ ⟨_, _, hn, by omega, HH4.out⟩ _ _ _ _ _ _ _ _ _ _ _ _ _ _ _ _ _ _ _ _ _ _ _ _ _ _ _ _ _ _ _ _ _ _ _ _ _ _ _ _ _ _ _ _ _ _ _ _ _ _ _ _ _ _ _ _ _ _ _ _ _ _ _ _ _ _ _ _ _ _ _ _ _ _ _ _ _ _ _ _ _ _ _ _ _ _ _ _ _ _ _ _ _ _ _ _ _ _ _ _ _ _ _ _ _ _ _ _ _ _ _ _ _ _ _ _ _ _ _ _ _ _ _ _ _ _ _ _ _ _
  · by_cases k2 : kd = 2
    · subst k2
      have C := Lib.hid (beginB nn op HK.out (by unfold maxLen; omega) hwf)
      go_wp2_with fail
      refine C.out.mono ?_
      rintro e w3 ⟨A3, n3, c3, rfl, s3, hc3, o3, F3, H3⟩
      have b1 := HC.out 1 _ rfl _ F3
      have b3 := HC.out 3 _ rfl _ F3
      have C3 := Lib.hid (beginRB nn op H3)
      have hn := beginL_len l nn op
      have HF3 := Lib.hid (And.intro F3 (And.intro s3 o3))
      clear C H3 F3 s3 o3
      go_wp2_with fail
      refine C3.out.mono ?_
      rintro e w4 ⟨A4, n4, c4, rfl, s4, hc4, H4⟩
      have s34 : SlB w4 A3 n3 (beginA l nn op).2.1 := by
        refine Sl.keepB HF3.out.2.1 fun b off hn e => ?_
        subst e
        have h1 := HF3.out.2.2.lt b rfl
        exact H4.fr.block b h1.2 (fun hh => hh (.inr h1))
      have H5 := H4.back HF3.out.1 (fun b hb => .inl hb) (fun b hb => hb.elim (fun hb => by omega) (fun hb => by omega))
      have qa := run_convert_SlB (P := Try.prog) s34 22 5 9 Try.underlying22 Try.underlying5 Try.underlying9 c3
      have qb := run_convert_SlB (P := Try.prog) s4 22 5 9 Try.underlying22 Try.underlying5 Try.underlying9 c4
      have HH5 := Lib.hid H5
      clear C3 H4 H5 s34 s4 HF3
      go_wp2
      exact HQ.out _ ⟨_, _, by omega, by omega, HH5.out⟩ _ _ _ _ _ _ _ _ _ _ _ _ _ _ _ _ _ _ _ _ _ _ _ _ _ _ _ _ _ _ _ _ _ _ _ _ _ _ _ _ _ _ _ _ _ _ _ _ _ _ _ _ _ _ _ _ _ _ _ _ _ _ _ _ _ _ _ _ _ _ _ _ _ _ _ _ _ _ _ _ _ _ _ _ _ _ _ _ _ _ _ _ _ _ _ _ _ _ _ _ _ _ _ _ _ _ _ _ _ _ _ _ _ _ _ _ _ _ _ _ _ _ _ _ _ _ _ _ _ _
    · by_cases k3 : kd = 3
      · subst k3
        have C := Lib.hid (endB op At nt ct tok HK.out hwf HT.out hnt hnc HTB.out)
        go_wp2_with fail
        refine C.out.mono ?_
        rintro e w3 ⟨rfl, H3⟩
        have b3 := HC.out 3 _ rfl _ H3.fr
        have b4 := HC.out 4 _ rfl _ H3.fr
        have s3 : SlB w3 At nt tok := Sl.keepB HT.out fun b off hn e => by
          have h1 := Sl.blk_lt HT.out hn e
          exact H3.fr.block b h1 (fun hh => hh (HTB.out b off none (by omega) e))
        have C3 := Lib.hid (endRB op At nt ct tok H3 s3 hnt hnc HTB.out)
        have hn := endL_len l op tok
        clear C H3 s3
        go_wp2_with fail
        refine C3.out.mono ?_
        rintro e w4 ⟨rfl, H4⟩
        have HH4 := Lib.hid H4
        clear C3 H4
        go_wp2
        exact HQ.out _ ⟨_, _, by omega, by omega, HH4.out⟩ _ _ _ _ _ _ _ _ _ _ _ _ _ _ _ _ _ _ _ _ _ _ _ _ _ _ _ _ _ _ _ _ _ _ _ _ _ _ _ _ _ _ _ _ _ _ _ _ _ _ _ _ _ _ _ _ _ _ _ _ _ _ _ _ _ _ _ _ _ _ _ _ _ _ _ _ _ _ _ _ _ _ _ _ _ _ _ _ _ _ _ _ _ _ _ _ _ _ _ _ _ _ _ _ _ _ _ _ _ _ _ _ _ _ _ _ _ _ _ _ _ _ _ _ _ _ _ _ _ _
      · by_cases k4 : kd = 4
        · subst k4
          have hn := goL_len sites l nn st
          go_wp2_with fail
          have HD := Lib.hid (HK.out.below ((Below.refl _ wb).drew))
          go_region_held3 (fun w' => w'.cell? ⟨gb, 1, none⟩ = some (.int .i64 nn) ∧ w'.cell? ⟨gb, 2, none⟩ = some (.int .i64 st))
            (first | exact ⟨b1, b2⟩ | exact hS1 | exact hS2 | assumption)
            (first
              | (go_at_call 12; refine (goB nn st HD.out).mono ?_; rintro e w3 ⟨rfl, H3⟩; have hS1 : w3.cell? ⟨gb, 1, none⟩ = some (.int .i64 nn) ∧ w3.cell? ⟨gb, 2, none⟩ = some (.int .i64 st) := ⟨HC.out 1 _ rfl _ H3.fr, HC.out 2 _ rfl _ H3.fr⟩; have HH3 := Lib.hid H3; clear H3)
              | (go_at_call 17; refine (goRB nn st HH3.out).mono ?_; rintro e w4 ⟨rfl, H4⟩; have hS2 : w4.cell? ⟨gb, 1, none⟩ = some (.int .i64 nn) ∧ w4.cell? ⟨gb, 2, none⟩ = some (.int .i64 st) := ⟨HC.out 1 _ rfl _ H4.fr, HC.out 2 _ rfl _ H4.fr⟩; have HH4 := Lib.hid H4; clear H4))
          go_wp2
          exact HQ.out _ ⟨_, _, by omega, by omega, HH4.out⟩ _ _ _ _ _ _ _ _ _ _ _ _ _ _ _ _ _ _ _ _ _ _ _ _ _ _ _ _ _ _ _ _ _ _ _ _ _ _ _ _ _ _ _ _ _ _ _ _ _ _ _ _ _ _ _ _ _ _ _ _ _ _ _ _ _ _ _ _ _ _ _ _ _ _ _ _ _ _ _ _ _ _ _ _ _ _ _ _ _ _ _ _ _ _ _ _ _ _ _ _ _ _ _ _ _ _ _ _ _ _ _ _ _ _ _ _ _ _ _ _ _ _ _ _ _ _ _ _ _ _
        · by_cases k5 : kd = 5
          · subst k5
            have hn := lostL_len l st
            go_wp2_with fail
            have HD := Lib.hid (HK.out.below ((Below.refl _ wb).drew))
            go_region_held3 (fun w' => w'.cell? ⟨gb, 2, none⟩ = some (.int .i64 st) ∧ True)
              (first | exact ⟨b2, trivial⟩ | exact hS1 | exact hS2 | exact hS3 | assumption)
              (first
                | (go_at_call 19; refine (lostB st HD.out (by omega)).mono ?_; rintro e w3 ⟨A3, n3, c3, rfl, s3, hn3, o3, F3, K3, hK3, hg3, H3⟩; have hS1 : w3.cell? ⟨gb, 2, none⟩ = some (.int .i64 st) ∧ True := ⟨HC.out 2 _ rfl _ F3, trivial⟩; have HH3 := Lib.hid (And.intro H3 (And.intro s3 (And.intro o3 (And.intro F3 (And.intro hK3 hg3))))); clear H3 s3 o3 F3 hK3 hg3)
                | (go_at_call 20; refine (lostRB st HH3.out.1 (by omega)).mono ?_; rintro e w4 ⟨A4, n4, c4, rfl, s4, H4⟩; have hS2 : w4.cell? ⟨gb, 2, none⟩ = some (.int .i64 st) ∧ True := ⟨HC.out 2 _ rfl _ (HH3.out.2.2.2.1.trans H4.fr (fun i hi => .inl fun hk => hi (HH3.out.2.2.2.2.1 i hk))), trivial⟩; have HS34 := Lib.hid (And.intro (Sl.of_own (own_keep HH3.out.2.2.1 HH3.out.2.2.2.2.2 (H4.fr.kept fun i hi hh => hh hi))) s4); have HH4 := Lib.hid (H4.back HH3.out.2.2.2.1 HH3.out.2.2.2.2.1 (fun b hb => hb.elim (fun hb => by omega) (fun hb => by omega))); clear H4 s4)
                | (go_at_call 18; refine (sameI_any _ _ _ _ _ _ _ _ _ HS34.out.1 HS34.out.2 hn3).mono ?_; rintro e w5 ⟨rfl, d5, rfl⟩; have hS3 : (w4.drewN d5).cell? ⟨gb, 2, none⟩ = some (.int .i64 st) ∧ True := hS2; have HH5 := Lib.hid (HH4.out.below (below_drewN (Below.refl _ w4) d5)); rw [show ((lostA l st) == (lostA l st)) = true from by simp]))
            go_wp2
            exact HQ.out _ ⟨_, _, by omega, by omega, HH5.out⟩ _ _ _ _ _ _ _ _ _ _ _ _ _ _ _ _ _ _ _ _ _ _ _ _ _ _ _ _ _ _ _ _ _ _ _ _ _ _ _ _ _ _ _ _ _ _ _ _ _ _ _ _ _ _ _ _ _ _ _ _ _ _ _ _ _ _ _ _ _ _ _ _ _ _ _ _ _ _ _ _ _ _ _ _ _ _ _ _ _ _ _ _ _ _ _ _ _ _ _ _ _ _ _ _ _ _ _ _ _ _ _ _ _ _ _ _ _ _ _ _ _ _ _ _ _ _ _ _ _ _
          · have HH4 := HK
            go_wp2
            exact HQ.out _ ⟨_, _, by omega, by omega, HH4.out⟩ _ _ _ _ _ _ _ _ _ _ _ _ _ _ _ _ _ _ _ _ _ _ _ _ _ _ _ _ _ _ _ _ _ _ _ _ _ _ _ _ _ _ _ _ _ _ _ _ _ _ _ _ _ _ _ _ _ _ _ _ _ _ _ _ _ _ _ _ _ _ _ _ _ _ _ _ _ _ _ _ _ _ _ _ _ _ _ _ _ _ _ _ _ _ _ _ _ _ _ _ _ _ _ _ _ _ _ _ _ _ _ _ _ _ _ _ _ _ _ _ _ _ _ _ _ _ _ _ _ _
end Go.Proofs.Ytbcgalejebeicaa
