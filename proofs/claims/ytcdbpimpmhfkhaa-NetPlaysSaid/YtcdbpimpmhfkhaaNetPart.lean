/-
  The network: Part.
-/
import Derived.Test.YtcdbpimpmhfkhaaNetP
import Derived.Deep.RegionLaw
import Derived.Deep.CutBlock
import Derived.Deep.DeepCutAuto
namespace Go.Proofs.Ytcdbpimpmhfkhaa
open Go.RowKit
set_option linter.unusedVariables false

theorem pairK_symm (a b c d : Int) : pairK c d a b = pairK a b c d := by
  unfold pairK
  by_cases h1 : a < c ∨ a = c ∧ b < d
  · by_cases h2 : c < a ∨ c = a ∧ d < b
    · omega
    · rw [if_pos h1, if_neg h2]
  · by_cases h2 : c < a ∨ c = a ∧ d < b
    · rw [if_neg h1, if_pos h2]
    · rw [if_neg h1, if_neg h2]
      have e1 : a = c := by omega
      have e2 : b = d := by omega
      rw [e1, e2]
theorem pairK_iff (fs fn ts tn as_ an bs bn : Int) : pairK fs fn ts tn = pairK as_ an bs bn ↔ (fs = as_ ∧ fn = an ∧ ts = bs ∧ tn = bn) ∨ (fs = bs ∧ fn = bn ∧ ts = as_ ∧ tn = an) := by
  constructor
  · intro h
    unfold pairK at h
    by_cases h1 : ts < fs ∨ ts = fs ∧ tn < fn
    · by_cases h2 : bs < as_ ∨ bs = as_ ∧ bn < an
      · rw [if_pos h1, if_pos h2] at h
        injection h with e1 e2 e3 e4
        exact .inl ⟨e3, e4, e1, e2⟩
      · rw [if_pos h1, if_neg h2] at h
        injection h with e1 e2 e3 e4
        exact .inr ⟨e3, e4, e1, e2⟩
    · by_cases h2 : bs < as_ ∨ bs = as_ ∧ bn < an
      · rw [if_neg h1, if_pos h2] at h
        injection h with e1 e2 e3 e4
        exact .inr ⟨e1, e2, e3, e4⟩
      · rw [if_neg h1, if_neg h2] at h
        injection h with e1 e2 e3 e4
        exact .inl ⟨e1, e2, e3, e4⟩
  · rintro (⟨rfl, rfl, rfl, rfl⟩ | ⟨rfl, rfl, rfl, rfl⟩)
    · rfl
    · exact pairK_symm _ _ _ _
/-- The map behind Part. -/
def partC (C : K4 → Bool) (k : K4) (v : Bool) : K4 → Bool := fun k' => if k' = k then v else C k'
section
variable {w w' : World} {fp fp' : Nat → Prop} {G : NGeo} {l : List Pk} {C : K4 → Bool} {c : Cnt} {m : Nat}
/-- Another map. -/
theorem NetG.remap (h : NetG w fp G l C c m) {C' : K4 → Bool} {m' : Nat} (hg : w.grownBy w' (some G.mb)) (hm : ∃ D, w'.ownsMap Try.prog 68 (plainElem Try.prog 4) G.mb m' D ∧ CutMap D C') : NetG w' fp G l C' c m' ∧ Fr fp w w' := by
  obtain ⟨lv, rows, r1, r2, r3, r4, r5, r6⟩ := h.ex
  obtain ⟨D0, hD0, _⟩ := h.map
  have hk : Kept (fun b => b ≠ G.mb) w w' := Kept.grown hg fun g hg' hh => hh (by injection hg' with hg'; exact hg'.symm)
  refine ⟨⟨h.inp, h.inm, ⟨lv, rows, hk _ _ (map_ne r1 hD0) r1, own_keep r2 (fun g hg' => by obtain ⟨cs, hcs⟩ := own_tag r2 hg'; exact map_ne hcs hD0) hk, r3, r4, fun y hy => ?_, r6⟩, hm, h.len, h.cnt, fun b hb => Nat.lt_of_lt_of_le (h.lt b hb) hg.size⟩, (Fr.of_grown hg).mono fun i hi => .inl (by injection hi with hi; subst hi; exact h.inm)⟩
  have hr := r5 y hy
  exact ⟨own_keep hr.row (fun g hg' => by obtain ⟨cs, hcs⟩ := own_tag hr.row hg'; exact map_ne hcs hD0) hk, hr.inn, hr.len, hr.wf⟩
theorem NetG.del_ (h : NetG w fp G l C c m) {k : K4} (hk : k.wf) :
    ∃ w1, (Builtin.delete_ #[56, 68] 0 #[.map (some G.mb), k.v]).run Try.prog w = .ok (.tuple #[]) w1 ∧ NetG w1 fp G l (partC C k false) c m ∧ Fr fp w w1 := by
  obtain ⟨D, hD, hA⟩ := h.map
  obtain ⟨w1, r1, o1, t1⟩ := hD.drop Try.keyed Try.underlying56 (key_of k hk) 0
  obtain ⟨q1, q2⟩ := h.remap t1.grown ⟨_, o1, hA.del hk⟩
  exact ⟨w1, r1, q1, q2⟩
theorem NetG.put_ (h : NetG w fp G l C c m) {k : K4} (hk : k.wf) (hm : m < maxLen) (v : Bool) :
    ∃ w1, (Instr.mapUpdate 56 (.map (some G.mb)) k.v (.bool v)).run Try.prog w = .ok () w1 ∧ NetG w1 fp G l (partC C k v) c (m + 1) ∧ Fr fp w w1 := by
  obtain ⟨D, hD, hA⟩ := h.map
  obtain ⟨w1, r1, o1, t1⟩ := hD.store Try.keyed Try.underlying56 hm (key_of k hk) (plainElem_bool Try.underlying4 v)
  obtain ⟨q1, q2⟩ := h.remap t1.grown ⟨_, o1, hA.put hk v⟩
  exact ⟨w1, r1, q1, q2⟩
/-- delete, as one step of a region that draws. -/
theorem step_delete {P : Program} {ops : Array Oper} {o : Oper} {a : Act} {w w1 : World} {K : Act → World → Prop} {Q : Exit → Act → World → Prop} {E : Prop}
    (hg : o.guard = none) (s x : Operand) (t k : TypeId) (hop : o.op = Op.call { callee := Callee.builtin Builtin.delete, args := #[s, x], argTypes := #[t, k] }) {vs vx : Value} (hs : a.eval s = vs) (hx : a.eval x = vx)
    (hrun : (Builtin.delete_ #[t, k] o.type #[vs, vx]).run P w = .ok (.tuple #[]) w1) (hK : K (a.put o.dst (.tuple #[])) w1) :
    if Region.wanted o (yielded ops a.tmps) = true then Oper.wp P o a w K Q else E := by
  have hw : Region.wanted o (yielded ops a.tmps) = true := by simp [Region.wanted, hg]
  rw [if_pos hw]
  unfold Oper.wp
  simp [execOp, hop, resolve, invoke, builtin, hs, hx, hrun, Result.andThen]
  exact hK
/-- What Part leaves. -/
def PartAns (w : World) (fp : Nat → Prop) (G : NGeo) (l : List Pk) (C : K4 → Bool) (c : Cnt) (m : Nat) (e : Ending) (w' : World) : Prop :=
  e = .returned (.tuple #[]) ∧ ∃ m', m' ≤ m + 1 ∧ NetG w' fp G l C c m' ∧ Fr fp w w'
/-- Between Part's two steps. -/
theorem part_mid {as_ an bs bn : Int} {wb w1 w2 : World} (hB : Below w.heap.size w wb) (hlt : ∀ b, fp b → b < w.heap.size) (H : NetG wb fp G l C c m) (b1 : Below wb.drew.heap.size wb.drew w1) {C' : K4 → Bool} (n2 : NetG w2 fp G l C' c m) (f2 : Fr fp w1 w2)
    (x0 : wb.cell? ⟨w.heap.size, 0, none⟩ = some (.int .i64 as_)) (x1 : wb.cell? ⟨w.heap.size, 1, none⟩ = some (.int .i64 an)) (y0 : wb.cell? ⟨w.heap.size + 1, 0, none⟩ = some (.int .i64 bs)) (y1 : wb.cell? ⟨w.heap.size + 1, 1, none⟩ = some (.int .i64 bn)) :
    NetG w2 fp G l C' c m ∧ Fr fp w w2 ∧ w2.cell? ⟨G.p, 1, none⟩ = some (.map (some G.mb)) ∧ w2.cell? ⟨w.heap.size, 0, none⟩ = some (.int .i64 as_) ∧ w2.cell? ⟨w.heap.size, 1, none⟩ = some (.int .i64 an) ∧ w2.cell? ⟨w.heap.size + 1, 0, none⟩ = some (.int .i64 bs) ∧ w2.cell? ⟨w.heap.size + 1, 1, none⟩ = some (.int .i64 bn) := by
  have b1' : Below wb.heap.size wb w1 := (Below.refl _ wb).drew.trans b1
  have k : ∀ {j o : Nat} {v : Value}, w.heap.size ≤ j → wb.cell? ⟨j, o, none⟩ = some v → w2.cell? ⟨j, o, none⟩ = some v := by
    intro j o v hj hc
    have hl := World.block_lt_of_cell? wb _ hc
    have h1 : w1.cell? ⟨j, o, none⟩ = some v := (b1'.cell hl).trans hc
    rw [World.cell?_of_block (w := w1) (f2.block j (by have := b1'.size; exact Nat.lt_of_lt_of_le hl this) (fun hh => by have := hlt j hh; omega))]
    exact h1
  exact ⟨n2, (Fr.of_below (hB.trans (b1'.mono hB.size))).trans f2 (fun i hi => .inl hi), n2.mcell, k (Nat.le_refl _) x0, k (Nat.le_refl _) x1, k (by omega) y0, k (by omega) y1⟩
/-- What lies behind Part's first step. -/
def PartMid (w : World) (fp : Nat → Prop) (G : NGeo) (l : List Pk) (C : K4 → Bool) (c : Cnt) (m : Nat) (as_ an bs bn : Int) (wx : World) : Prop :=
  NetG wx fp G l C c m ∧ Fr fp w wx ∧ wx.cell? ⟨G.p, 1, none⟩ = some (.map (some G.mb)) ∧ wx.cell? ⟨w.heap.size, 0, none⟩ = some (.int .i64 as_) ∧ wx.cell? ⟨w.heap.size, 1, none⟩ = some (.int .i64 an) ∧ wx.cell? ⟨w.heap.size + 1, 0, none⟩ = some (.int .i64 bs) ∧ wx.cell? ⟨w.heap.size + 1, 1, none⟩ = some (.int .i64 bn)
set_option maxHeartbeats 1000000 in
theorem part_off (as_ an bs bn : Int) (h : NetG w fp G l C c m) (hw : (pairK as_ an bs bn).wf) :
    Calls Try.prog 20 #[.pointer (some ⟨G.p, 0, none⟩), .agg #[.int .i64 as_, .int .i64 an], .agg #[.int .i64 bs, .int .i64 bn], .bool false] w (PartAns w fp G l (partC C (pairK as_ an bs bn) false) c m) := by
  have HLT := Lib.hid h.lt
  obtain ⟨x0, x1, y0, y1, B0⟩ := two_cells w (.int .i64 as_) (.int .i64 an) (.int .i64 bs) (.int .i64 bn) 29 _ rfl
  have H := Lib.hid (h.below B0)
  have m0 := (h.below B0).mcell
  have HW := Lib.hid hw
  have HB := Lib.hid B0
  clear h hw B0
  go_enter Try.func20, Try.ntmps20
  go_wp2_with fail
  generalize hwb : (w.alloc (.cells #[.int .i64 as_, .int .i64 an] 29)).alloc (.cells #[.int .i64 bs, .int .i64 bn] 29) = wb at *
  clear hwb
  have HC := Lib.hid (pair_any as_ an bs bn wb.drew)
  go_upto_region 2 with fail
  go_cut [14] (fun _ wx => PartMid w fp G l (partC C (pairK as_ an bs bn) false) c m as_ an bs bn wx)
  case first =>
    go_region_law (first
      | (go_simp; go_at_call 30; refine HC.out.mono ?_; rintro e w1 ⟨rfl, b1⟩; have hS1 : w1.cell? ⟨G.p, 1, none⟩ = some (.map (some G.mb)) := (b1.cell (World.block_lt_of_cell? wb _ m0)).trans m0; have HB1 := Lib.hid b1; clear b1)
      | (obtain ⟨w2, r2, n2, f2⟩ := (H.out.below (Below.trans ((Below.refl _ wb).drew) HB1.out)).del_ HW.out; refine step_delete rfl (.tmp 11) (.tmp 14) 56 68 rfl (by simp [Act.eval]) (by simp [Act.eval]) r2 ?_; have HN := Lib.hid (And.intro n2 f2); clear r2 n2 f2))
    all_goals
      have HF := Lib.hid (part_mid HB.out (hlt := HLT.out) H.out HB1.out HN.out.1 HN.out.2 x0 x1 y0 y1)
      clear HN HB1 hS1
      go_wp2_with fail
      go_meet
      case rel => exact HF.out
  case rest =>
    have hM : PartMid w fp G l (partC C (pairK as_ an bs bn) false) c m as_ an bs bn _ := hcut
    have HM := Lib.hid hM
    clear hM hcut H HC HB m0 x0 x1 y0 y1
    go_wp2
    first | go_end0 | refine bodyPost_ret (results_none rfl _ _ _) rfl ?_
    exact ⟨rfl, m, by omega, HM.out.1, HM.out.2.1⟩
theorem partC_put (C : K4 → Bool) (k : K4) (v : Bool) : partC (partC C k false) k v = partC C k v := by
  funext k'
  unfold partC
  split <;> rfl
set_option maxHeartbeats 1000000 in
theorem part_on0 (as_ an : Int) (h : NetG w fp G l C c m) (hw : (pairK as_ an as_ an).wf) (hm : m < maxLen) :
    Calls Try.prog 20 #[.pointer (some ⟨G.p, 0, none⟩), .agg #[.int .i64 as_, .int .i64 an], .agg #[.int .i64 as_, .int .i64 an], .bool true] w (PartAns w fp G l (partC C (pairK as_ an as_ an) false) c m) := by
  have HLT := Lib.hid h.lt
  obtain ⟨bs, hbs⟩ : ∃ bs, bs = as_ := ⟨_, rfl⟩
  obtain ⟨bn, hbn⟩ : ∃ bn, bn = an := ⟨_, rfl⟩
  subst hbs hbn
  have HNE := Lib.hid (And.intro hm hm)
  obtain ⟨x0, x1, y0, y1, B0⟩ := two_cells w (.int .i64 bs) (.int .i64 bn) (.int .i64 bs) (.int .i64 bn) 29 _ rfl
  have H := Lib.hid (h.below B0)
  have m0 := (h.below B0).mcell
  have HW := Lib.hid hw
  have HB := Lib.hid B0
  clear h hw B0
  go_enter Try.func20, Try.ntmps20
  go_wp2_with fail
  generalize hwb : (w.alloc (.cells #[.int .i64 bs, .int .i64 bn] 29)).alloc (.cells #[.int .i64 bs, .int .i64 bn] 29) = wb at *
  clear hwb
  have HC := Lib.hid (pair_any bs bn bs bn wb.drew)
  go_upto_region 2 with fail
  go_cut [14] (fun _ wx => PartMid w fp G l (partC C (pairK bs bn bs bn) false) c m bs bn bs bn wx)
  case first =>
    go_region_law (first
      | (go_simp; go_at_call 30; refine HC.out.mono ?_; rintro e w1 ⟨rfl, b1⟩; have hS1 : w1.cell? ⟨G.p, 1, none⟩ = some (.map (some G.mb)) := (b1.cell (World.block_lt_of_cell? wb _ m0)).trans m0; have HB1 := Lib.hid b1; clear b1)
      | (obtain ⟨w2, r2, n2, f2⟩ := (H.out.below (Below.trans ((Below.refl _ wb).drew) HB1.out)).del_ HW.out; refine step_delete rfl (.tmp 11) (.tmp 14) 56 68 rfl (by simp [Act.eval]) (by simp [Act.eval]) r2 ?_; have HN := Lib.hid (And.intro n2 f2); clear r2 n2 f2))
    all_goals
      have HF := Lib.hid (part_mid HB.out (hlt := HLT.out) H.out HB1.out HN.out.1 HN.out.2 x0 x1 y0 y1)
      clear HN HB1 hS1
      go_wp2_with fail
      go_meet
      case rel => exact HF.out
  case rest =>
    have HM := Lib.hid (show PartMid w fp G l (partC C (pairK bs bn bs bn) false) c m bs bn bs bn _ from hcut)
    obtain ⟨_, _, m0, x0, x1, y0, y1⟩ := hcut
    clear H HC HB
    go_wp2
    first | go_end0 | refine bodyPost_ret (results_none rfl _ _ _) rfl ?_
    exact ⟨rfl, m, by omega, HM.out.1, HM.out.2.1⟩
set_option maxHeartbeats 1000000 in
theorem part_on1 (as_ an bs bn : Int) (h : NetG w fp G l C c m) (hw : (pairK as_ an bs bn).wf) (hm : m < maxLen) (hne : ¬ as_ = bs) :
    Calls Try.prog 20 #[.pointer (some ⟨G.p, 0, none⟩), .agg #[.int .i64 as_, .int .i64 an], .agg #[.int .i64 bs, .int .i64 bn], .bool true] w (PartAns w fp G l (partC C (pairK as_ an bs bn) true) c m) := by
  have HLT := Lib.hid h.lt
  obtain ⟨x0, x1, y0, y1, B0⟩ := two_cells w (.int .i64 as_) (.int .i64 an) (.int .i64 bs) (.int .i64 bn) 29 _ rfl
  have H := Lib.hid (h.below B0)
  have m0 := (h.below B0).mcell
  have HW := Lib.hid hw
  have HB := Lib.hid B0
  clear h hw B0
  go_enter Try.func20, Try.ntmps20
  go_wp2_with fail
  generalize hwb : (w.alloc (.cells #[.int .i64 as_, .int .i64 an] 29)).alloc (.cells #[.int .i64 bs, .int .i64 bn] 29) = wb at *
  clear hwb
  have HC := Lib.hid (pair_any as_ an bs bn wb.drew)
  go_upto_region 2 with fail
  go_cut [14] (fun _ wx => PartMid w fp G l (partC C (pairK as_ an bs bn) false) c m as_ an bs bn wx)
  case first =>
    go_region_law (first
      | (go_simp; go_at_call 30; refine HC.out.mono ?_; rintro e w1 ⟨rfl, b1⟩; have hS1 : w1.cell? ⟨G.p, 1, none⟩ = some (.map (some G.mb)) := (b1.cell (World.block_lt_of_cell? wb _ m0)).trans m0; have HB1 := Lib.hid b1; clear b1)
      | (obtain ⟨w2, r2, n2, f2⟩ := (H.out.below (Below.trans ((Below.refl _ wb).drew) HB1.out)).del_ HW.out; refine step_delete rfl (.tmp 11) (.tmp 14) 56 68 rfl (by simp [Act.eval]) (by simp [Act.eval]) r2 ?_; have HN := Lib.hid (And.intro n2 f2); clear r2 n2 f2))
    all_goals
      have HF := Lib.hid (part_mid HB.out (hlt := HLT.out) H.out HB1.out HN.out.1 HN.out.2 x0 x1 y0 y1)
      clear HN HB1 hS1
      go_wp2_with fail
      go_meet
      case rel => exact HF.out
  case rest =>
    have hM : PartMid w fp G l (partC C (pairK as_ an bs bn) false) c m as_ an bs bn _ := hcut
    obtain ⟨_, _, m0, x0, x1, y0, y1⟩ := hcut
    have HM := Lib.hid hM
    clear hM H HC HB
    go_wp2_with fail
    have HC := Lib.hid (pair_any as_ an bs bn wc.drew)
    go_region_law (first
      | (go_simp; go_at_call 30; refine HC.out.mono ?_; rintro e w1 ⟨rfl, b1⟩; have b1' : Below wc.heap.size wc w1 := Below.trans ((Below.refl _ wc).drew) b1; have hS1 : w1.cell? ⟨G.p, 1, none⟩ = some (.map (some G.mb)) := (b1'.cell (World.block_lt_of_cell? wc _ m0)).trans m0; obtain ⟨w2, r2, n2, f2⟩ := (HM.out.1.below b1').put_ HW.out hm true; have HN := Lib.hid (And.intro n2 ((HM.out.2.1.trans (Fr.of_below b1' (fp := fun _ => False)) (fun _ h => h.elim)).trans f2 (fun i hi => .inl hi))); clear b1 b1' n2 f2))
    all_goals
      go_wp2
      first | go_end0 | refine bodyPost_ret (results_none rfl _ _ _) rfl ?_
      exact ⟨rfl, m + 1, by omega, by rw [partC_put] at HN; exact HN.out.1, HN.out.2⟩
set_option maxHeartbeats 1000000 in
theorem part_on2 (as_ an bn : Int) (h : NetG w fp G l C c m) (hw : (pairK as_ an as_ bn).wf) (hm : m < maxLen) (hne : ¬ an = bn) :
    Calls Try.prog 20 #[.pointer (some ⟨G.p, 0, none⟩), .agg #[.int .i64 as_, .int .i64 an], .agg #[.int .i64 as_, .int .i64 bn], .bool true] w (PartAns w fp G l (partC C (pairK as_ an as_ bn) true) c m) := by
  have HLT := Lib.hid h.lt
  obtain ⟨bs, hbs⟩ : ∃ bs, bs = as_ := ⟨_, rfl⟩
  subst hbs
  obtain ⟨x0, x1, y0, y1, B0⟩ := two_cells w (.int .i64 bs) (.int .i64 an) (.int .i64 bs) (.int .i64 bn) 29 _ rfl
  have H := Lib.hid (h.below B0)
  have m0 := (h.below B0).mcell
  have HW := Lib.hid hw
  have HB := Lib.hid B0
  clear h hw B0
  go_enter Try.func20, Try.ntmps20
  go_wp2_with fail
  generalize hwb : (w.alloc (.cells #[.int .i64 bs, .int .i64 an] 29)).alloc (.cells #[.int .i64 bs, .int .i64 bn] 29) = wb at *
  clear hwb
  have HC := Lib.hid (pair_any bs an bs bn wb.drew)
  go_upto_region 2 with fail
  go_cut [14] (fun _ wx => PartMid w fp G l (partC C (pairK bs an bs bn) false) c m bs an bs bn wx)
  case first =>
    go_region_law (first
      | (go_simp; go_at_call 30; refine HC.out.mono ?_; rintro e w1 ⟨rfl, b1⟩; have hS1 : w1.cell? ⟨G.p, 1, none⟩ = some (.map (some G.mb)) := (b1.cell (World.block_lt_of_cell? wb _ m0)).trans m0; have HB1 := Lib.hid b1; clear b1)
      | (obtain ⟨w2, r2, n2, f2⟩ := (H.out.below (Below.trans ((Below.refl _ wb).drew) HB1.out)).del_ HW.out; refine step_delete rfl (.tmp 11) (.tmp 14) 56 68 rfl (by simp [Act.eval]) (by simp [Act.eval]) r2 ?_; have HN := Lib.hid (And.intro n2 f2); clear r2 n2 f2))
    all_goals
      have HF := Lib.hid (part_mid HB.out (hlt := HLT.out) H.out HB1.out HN.out.1 HN.out.2 x0 x1 y0 y1)
      clear HN HB1 hS1
      go_wp2_with fail
      go_meet
      case rel => exact HF.out
  case rest =>
    have hM : PartMid w fp G l (partC C (pairK bs an bs bn) false) c m bs an bs bn _ := hcut
    obtain ⟨_, _, m0, x0, x1, y0, y1⟩ := hcut
    have HM := Lib.hid hM
    clear hM H HC HB
    go_wp2_with fail
    have HC := Lib.hid (pair_any bs an bs bn wc.drew)
    go_region_law (first
      | (go_simp; go_at_call 30; refine HC.out.mono ?_; rintro e w1 ⟨rfl, b1⟩; have b1' : Below wc.heap.size wc w1 := Below.trans ((Below.refl _ wc).drew) b1; have hS1 : w1.cell? ⟨G.p, 1, none⟩ = some (.map (some G.mb)) := (b1'.cell (World.block_lt_of_cell? wc _ m0)).trans m0; obtain ⟨w2, r2, n2, f2⟩ := (HM.out.1.below b1').put_ HW.out hm true; have HN := Lib.hid (And.intro n2 ((HM.out.2.1.trans (Fr.of_below b1' (fp := fun _ => False)) (fun _ h => h.elim)).trans f2 (fun i hi => .inl hi))); clear b1 b1' n2 f2))
    all_goals
      go_wp2
      first | go_end0 | refine bodyPost_ret (results_none rfl _ _ _) rfl ?_
      exact ⟨rfl, m + 1, by omega, by rw [partC_put] at HN; exact HN.out.1, HN.out.2⟩
theorem part_on (as_ an bs bn : Int) (h : NetG w fp G l C c m) (hw : (pairK as_ an bs bn).wf) (hm : m < maxLen) :
    Calls Try.prog 20 #[.pointer (some ⟨G.p, 0, none⟩), .agg #[.int .i64 as_, .int .i64 an], .agg #[.int .i64 bs, .int .i64 bn], .bool true] w (PartAns w fp G l (partC C (pairK as_ an bs bn) (!decide (as_ = bs ∧ an = bn))) c m) := by
  by_cases e1 : as_ = bs
  · subst e1
    by_cases e2 : an = bn
    · subst e2
      have := part_on0 as_ an h hw hm
      simpa using this
    · have := part_on2 as_ an bn h hw hm e2
      simpa [e2] using this
  · have := part_on1 as_ an bs bn h hw hm e1
    simpa [e1] using this
end
end Go.Proofs.Ytcdbpimpmhfkhaa
