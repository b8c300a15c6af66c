/-
  Whatever bytes are read as a message, or refused, as the document says.
  Conditions: none.
  Whatever bytes are read as a message, or refused, as the document says
  Conditions: none beyond the given row's own.
-/
import Derived.Test.YtgnedaihchmoaaaCodeLaws
import Derived.Test.YtgnedaihchmoaaaCodeRefMsg
import Derived.Test.YtgnedaihchmoaaaCodeSameMsg
import Derived.Test.YtgnedaihchmoaaaRows
import Derived.Test.YtgnedaihchmoaaaMA
import Derived.WalkKit
import Derived.ProofKit
import Derived.OpenShut
import Derived.ShutString
import Derived.ChangeOld
import Derived.Below
import Derived.SizedLaws
import Derived.Deep.CondSized
import Derived.Lib.SmallJoins
namespace Go.Proofs.Ytgnedaihchmoaaa
open Go.RowKit
set_option linter.unusedVariables false

def zMx : Mx := ⟨⟨0, 0, 0, 0, 0, 0, 0, 0, 0, ⟨#[]⟩, [], [], [], [], []⟩, none, 0, 0, none, 0, 0, none, 0, 0, none, 0, 0, none, 0, 0⟩
theorem zMx_row (w : World) : MRow w zMx :=
  ⟨⟨[], rfl, Sl.nil _ _ _, fun y hy => by cases hy⟩, Sl.nil _ _ _, Sl.nil _ _ _, Sl.nil _ _ _, Sl.nil _ _ _, by decide, by decide, by decide, by decide, by decide, by decide, by decide, by decide, by decide, by decide, by decide, by decide, by decide, fun h hh => by cases hh⟩
/-- What both calls of a reading answer: one message in two places, or none. -/
theorem msgAns_two {w w' : World} {o : Option Mg} {x : Int} {e : Ending} (hx : o ≠ none → x = 0) (h : MsgAns w o x e w') : ∃ y : Mx, e = .returned (.tuple #[.agg y.cells, .int .i64 x]) ∧ y.m = o.getD zMx.m ∧ MRow w' y ∧ Below w.heap.size w w' := by
  cases o with
  | none =>
    obtain ⟨rfl, b⟩ := h
    exact ⟨zMx, rfl, rfl, zMx_row _, b⟩
  | some m =>
    obtain ⟨v, rfl, ⟨y, rfl, rfl, hO⟩, b⟩ := h
    rw [hx (by simp)]
    exact ⟨y, rfl, rfl, hO.row, b⟩
set_option maxHeartbeats 8000000 in
set_option maxRecDepth 100000 in
theorem codeReads_walk (a : Option Addr) (len cap : Nat) (l : List UInt8) (W : World) (s0 : SlB W a len l) (b0 : len ≤ cap) (z0 : cap * 1 ≤ 140737488351232) :
    Calls Try.prog 4 #[.slice a len cap] W (BoolE W true) := by
  have hcode : (msgRd l).1 ≠ none → (msgRd l).2 = 0 := fun h => by
    cases ho : (msgRd l).1 with
    | none => exact absurd ho h
    | some m => exact msgRd_ok ho
  have c1 := (msg_any W a len cap l s0 b0 (by omega)).mono fun e w' h => msgAns_two hcode h
  have HC := Lib.hid (fun (w : World) (b : Below W.heap.size W w) => (refMsg_any w a len cap l (Sl.below s0 b) b0 (by omega)).mono fun e w' h => msgAns_two hcode h)
  obtain ⟨o, ho⟩ : ∃ o, (msgRd l).1.getD zMx.m = o := ⟨_, rfl⟩
  obtain ⟨q, hq⟩ : ∃ q, (msgRd l).2 = q := ⟨_, rfl⟩
  rw [ho, hq] at c1 HC
  have C1 := Lib.hid c1
  clear c1 hcode s0 ho hq
  go_enter Try.func4, Try.ntmps4
  go_wp2_with fail
  refine C1.out.mono ?_
  rintro e w1 ⟨y, rfl, hy, ry, b1⟩
  obtain ⟨⟨kindb, fsb, fnb, tsb, tnb, idb, mnb, fob, codeb, keyb, recsb, vecb, pathb, hashesb, routeb⟩, Arb, nrb, crb, Avb, nvb, cvb, Apb, npb, cpb, Ahb, nhb, chb, Aob, nob, cob⟩ := y
  simp only [Mx.cells] at hy ⊢
  have bz : Below w1.heap.size w1 (w1.alloc (.cells #[.int .i64 kindb, .int .i64 fsb, .int .i64 fnb, .int .i64 tsb, .int .i64 tnb, .int .i64 idb, .int .i64 mnb, .int .i64 fob, .int .i64 codeb, .string keyb, .slice Arb nrb crb, .slice Avb nvb cvb, .slice Apb npb cpb, .slice Ahb nhb chb, .slice Aob nob cob] 30)) := (Below.refl _ _).alloc (Nat.le_refl _) _
  have X1 := heap_alloc_new w1 (.cells #[.int .i64 kindb, .int .i64 fsb, .int .i64 fnb, .int .i64 tsb, .int .i64 tnb, .int .i64 idb, .int .i64 mnb, .int .i64 fob, .int .i64 codeb, .string keyb, .slice Arb nrb crb, .slice Avb nvb cvb, .slice Apb npb cpb, .slice Ahb nhb chb, .slice Aob nob cob] 30)
  have hB := b1.trans (bz.mono b1.size)
  have C2 := Lib.hid (HC.out _ hB)
  have HB := Lib.hid hB
  have HRY := Lib.hid (ry.below bz)
  have HX1 := Lib.hid X1
  have HY := Lib.hid hy
  clear hy ry b1 bz X1 hB C1 HC
  go_wp2_with fail
  refine C2.out.mono ?_
  rintro e w2 ⟨z, rfl, hz, rz, b2⟩
  obtain ⟨⟨kindd, fsd, fnd, tsd, tnd, idd, mnd, fod, coded, keyd, recsd, vecd, pathd, hashesd, routed⟩, Ard, nrd, crd, Avd, nvd, cvd, Apd, npd, cpd, Ahd, nhd, chd, Aod, nod, cod⟩ := z
  simp only [Mx.cells] at hz ⊢
  have bw : Below w2.heap.size w2 (w2.alloc (.cells #[.int .i64 kindd, .int .i64 fsd, .int .i64 fnd, .int .i64 tsd, .int .i64 tnd, .int .i64 idd, .int .i64 mnd, .int .i64 fod, .int .i64 coded, .string keyd, .slice Ard nrd crd, .slice Avd nvd cvd, .slice Apd npd cpd, .slice Ahd nhd chd, .slice Aod nod cod] 30)) := (Below.refl _ _).alloc (Nat.le_refl _) _
  have X2 := heap_alloc_new w2 (.cells #[.int .i64 kindd, .int .i64 fsd, .int .i64 fnd, .int .i64 tsd, .int .i64 tnd, .int .i64 idd, .int .i64 mnd, .int .i64 fod, .int .i64 coded, .string keyd, .slice Ard nrd crd, .slice Avd nvd cvd, .slice Apd npd cpd, .slice Ahd nhd chd, .slice Aod nod cod] 30)
  have hX1 := (b2.block _ (lt_of_block HX1.out)).trans HX1.out
  have C3 := Lib.hid (awake_any (w2.alloc (.cells #[.int .i64 kindd, .int .i64 fsd, .int .i64 fnd, .int .i64 tsd, .int .i64 tnd, .int .i64 idd, .int .i64 mnd, .int .i64 fod, .int .i64 coded, .string keyd, .slice Ard nrd crd, .slice Avd nvd cvd, .slice Apd npd cpd, .slice Ahd nhd chd, .slice Aod nod cod] 30)))
  have HXX := Lib.hid (And.intro ((bw.block _ (lt_of_block hX1)).trans hX1) X2)
  have HB2 := HB.out.trans (b2.mono HB.out.size)
  have HB3 := Lib.hid (HB2.trans (bw.mono HB2.size))
  have HRY2 := Lib.hid ((HRY.out.below b2).below bw)
  have HRZ2 := Lib.hid (rz.below bw)
  have HE := Lib.hid (HY.out.trans hz.symm)
  clear hz rz b2 bw X2 hX1 C2 HB HB2 HRY HX1 HY
  go_wp2_with fail
  refine C3.out.mono ?_
  rintro e w3 ⟨rfl, b3⟩
  have h1 := (b3.block _ (lt_of_block HXX.out.1)).trans HXX.out.1
  have h2 := (b3.block _ (lt_of_block HXX.out.2)).trans HXX.out.2
  obtain ⟨⟨p0, p1, p2, p3, p4⟩, ⟨p5, p6, p7, p8, p9⟩, p10, p11, p12, p13, p14⟩ := msg_cells h1
  obtain ⟨⟨q0, q1, q2, q3, q4⟩, ⟨q5, q6, q7, q8, q9⟩, q10, q11, q12, q13, q14⟩ := msg_cells h2
  have HB4 := Lib.hid (HB3.out.trans (b3.mono HB3.out.size))
  have c4 := same_true _ _ HE.out w3 (HRY2.out.below b3) (HRZ2.out.below b3)
  simp only [Mx.cells] at c4
  have C4 := Lib.hid c4
  clear c4 h1 h2 b3 C3 HXX HB3 HRY2 HRZ2 HE
  go_wp2_with fail
  refine C4.out.mono ?_
  rintro e w4 ⟨rfl, b4⟩
  have HB5 := Lib.hid (HB4.out.trans (b4.mono HB4.out.size))
  clear p0 p1 p2 p3 p4 p5 p6 p7 p8 p9 p10 p11 p12 p13 p14
  clear b4 C4 HB4 q0 q1 q2 q3 q4 q5 q6 q7 q8 q9 q10 q11 q12 q13 q14
  go_wp2
  go_ret
  exact ⟨rfl, HB5.out⟩
end Go.Proofs.Ytgnedaihchmoaaa
namespace Go.Proofs.Ytgnedaihchmoaaa.codeReadsDone
open Go.ChangeShapes Go.WideShapes Go.ChangeAt Go.RowKit
open Go.ChangeMaps (open_string shut_string)
set_option linter.unusedVariables false

theorem own : ownKnob Try.prog.godebug = none := by kernel_rfl
theorem laidOut : laidOutB Try.prog = true := by kernel_rfl
theorem cells5 : Try.prog.cellsOf 5 = 1 := by kernel_rfl
theorem bytes5 : Try.prog.bytesOf 5 = 1 := by kernel_rfl

set_option maxRecDepth 100000 in
theorem lifted (os : Os) (started : os.Started) (H : Type) (enc : TypeId × Value → H) :
    ReturnsInHanded {} Try.checked os 4 .any (Rows.codeReadsSpec.pre6 enc Try.prog Try.f4 Rows.codeReadsRow.domain false) (Rows.codeReadsSpec.post enc Try.prog Try.f4 false true false false) := by
  refine returnsInHanded_of_change_sized (C := Try.checked) own started (by kernel_rfl) Try.func4
    (ChangeSpec.witness6 (enc := enc) (C := Try.checked) false ⟨#[], #[.slice none 0 0], []⟩ 8 (by kernel_rfl) (by kernel_rfl) (by kernel_rfl) (by kernel_rfl)) ?_
  intro W base args ds gs before hval0 hW hcnd hsz0 _
  have hsz : (DataW.weightsEach Try.prog (Try.f4.params.toList ++ Rows.codeReadsSpec.plain.varTypes Try.prog) (ds ++ gs)).all (· ≤ reachBytes) = true := hsz0
  clear hsz0
  have hval : ∀ (j : Nat) t v, Try.f4.params[j]? = some t → args[j]? = some v → Value.okWide Try.prog W .any base t v := hval0
  have hW' := hW
  obtain ⟨p, q, hA0, hV, rfl, hfz, hnd⟩ := hW
  have hA : DataW.TrodAll enc Try.prog W 0 (fun _ => true) true Try.f4.params.toList args.toList ds p := hA0
  rw [Try.params4] at hA hval hsz
  obtain ⟨v0, vs0, d0, ds0, p0, q0, hargs, rfl, rfl, h0, r0⟩ := trodAll_cons hA
  obtain ⟨rfl, rfl, rfl⟩ := trodAll_nil r0
  obtain rfl : args = #[v0] := by cases args; simp_all
  obtain ⟨rfl, rfl⟩ := trodVars_none hV
  have k0 := h0
  have lt0 : ∀ x ∈ p0, x.block < W.heap.size := by obtain ⟨m, hm⟩ := k0; exact DataW.trod_lt m _ _ _ hm
  obtain ⟨a0, len0, cap0, l0, rfl, s0, b0, m0, c0⟩ := open_bytes Try.underlying31 Try.underlying5 cells5 (hval 0 31 v0 rfl rfl) h0
  have z0 : cap0 * 1 ≤ 140737488351232 := reach_cap hsz (j := 0) rfl c0 rfl Try.underlying31 bytes5
  clear hA0 hval0
  refine (codeReads_walk a0 len0 cap0 l0 W s0 b0 z0).mono fun e W' ⟨he, bel⟩ => ?_
  subst he
  exact ⟨_, rfl, _, _, _, [], _, [], hW', trodAll_mk1 (shut_bool Try.underlying4 _), (trodAll_cons_mk (Below.trod laidOut (by kernel_rfl) (of_decide_eq_true (by kernel_rfl)) k0 bel lt0) trodAll_mk0), rfl, bel.frame _, fun h => by cases h⟩

theorem over : Rows.codeReadsRow.holds Try.pinned (OpenSpec.ofChange Rows.codeReadsSpec) :=
  OpenClaim.holds_of_wide 4 Try.f4 rfl rfl rfl rfl rfl rfl rfl ⟨rfl, rfl, rfl, rfl, rfl⟩ rfl rfl rfl rfl rfl (by kernel_rfl) Try.func4 (by kernel_rfl)
    (of_decide_eq_true (by kernel_rfl)) (by unfold Func.isWrapper; rw [if_neg (of_decide_eq_false (by kernel_rfl))]; exact ⟨rfl, rfl⟩)
    (fun os started H enc _ => lifted os started H enc)

/-- THE STATEMENT. -/
theorem proved : Rows.CodeReadsSaid := over
#print axioms proved
end Go.Proofs.Ytgnedaihchmoaaa.codeReadsDone
