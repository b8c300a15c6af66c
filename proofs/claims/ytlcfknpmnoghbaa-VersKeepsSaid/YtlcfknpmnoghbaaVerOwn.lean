/-
  A list of versions of the call's own, their Pasts too; a list's copy.
-/
import Derived.Test.YtlcfknpmnoghbaaVerJoinPlain
import Derived.Test.YtlcfknpmnoghbaaSpanSame
namespace Go.Proofs.Ytlcfknpmnoghbaa
open Go.RowKit
set_option linter.unusedVariables false

theorem Try.infoVer : (Try.prog.info? 28).map (fun i => (i.zero, i.size, i.bytes)) = some (some (.agg #[.int .i64 0, .int .i64 0, .slice none 0 0, .bool false, .string ⟨#[]⟩]), 5, 64) := by kernel_rfl
/-- What is known of a version whatever the world. -/
structure VFix (v : Vr) (n c : Nat) : Prop where
  cap : n ≤ c
  len : n * 24 ≤ 140737488351232
  wf : (Lit.int .i64 v.s).wf = true ∧ (Lit.int .i64 v.n).wf = true
  wfp : ∀ x ∈ v.past, wfSp x
  str : v.val.size ≤ 140737488351232
theorem VRow.fix {w : World} {v : Vr} {A : Option Addr} {n c : Nat} (h : VRow w v A n c) : VFix v n c := ⟨h.cap, h.len, h.wf, h.wfp, h.str⟩
theorem VFix.row {w : World} {v : Vr} {A : Option Addr} {n c : Nat} (h : VFix v n c) (hs : SlS w A n v.past) : VRow w v A n c := ⟨hs, h.cap, h.len, h.wf, h.wfp, h.str⟩
theorem flat_one (rows : List RV) : ∀ u ∈ rows.flatMap vV1, u.oneCell' = true := by
  intro u hu
  obtain ⟨y, _, h⟩ := List.mem_flatMap.1 hu
  exact vV1_one y u h
/-- The rows are the call's own, from block B on, and their Pasts too. -/
def OwnV (w : World) (B : Nat) (v : Value) (n : Nat) (rows : List RV) : Prop :=
  w.ownsRow B 28 5 v n (rows.flatMap vV1) ∧ ∀ y ∈ rows, w.ownsRow B 42 3 (.slice y.2.1 y.2.2.1 y.2.2.2) y.2.2.1 (spV y.1.past) ∧ VFix y.1 y.2.2.1 y.2.2.2
theorem own_far {w : World} {B B' : Nat} {e e' : TypeId} {s s' n n' : Nat} {v v' : Value} {xs xs' : List Value} (h : w.ownsRow B e s v n xs) (h' : w.ownsRow B' e' s' v' n' xs') (hne : e ≠ e') : v.ownBlock = none ∨ v.ownBlock ≠ v'.ownBlock := by
  rcases h.2 with ⟨rfl, _⟩ | ⟨g, cap, cur, rfl, _, hg, _⟩
  · exact .inl rfl
  · refine .inr fun e0 => ?_
    rcases h'.2 with ⟨rfl, _⟩ | ⟨g', cap', cur', rfl, _, hg', _⟩
    · cases e0
    · injection e0 with e0
      simp only at e0
      subst e0
      rw [hg] at hg'
      injection hg' with hg'
      injection hg' with _ h2
      exact hne h2
section
variable {w w' : World} {B : Nat} {v : Value} {n : Nat} {rows : List RV}
theorem OwnV.nil (w : World) (B : Nat) : OwnV w B (.slice none 0 0) 0 [] := ⟨World.ownsRow_nil _ _ _ _, fun y hy => by cases hy⟩
theorem OwnV.below (h : OwnV w B v n rows) (b : Below w.heap.size w w') : OwnV w' B v n rows := ⟨own_below h.1 b, fun y hy => ⟨own_below (h.2 y hy).1 b, (h.2 y hy).2⟩⟩
theorem OwnV.lower {B' : Nat} (h : OwnV w B v n rows) (hb : B' ≤ B) : OwnV w B' v n rows := ⟨own_lower h.1 hb, fun y hy => ⟨own_lower (h.2 y hy).1 hb, (h.2 y hy).2⟩⟩
theorem OwnV.len (h : OwnV w B v n rows) : rows.length = n := by
  have := h.1.1
  rw [flat_len vV1_len] at this
  omega
theorem OwnV.slv {A : Option Addr} {c : Nat} (h : OwnV w B (.slice A n c) n rows) : SlV w A n (rows.map (·.1)) :=
  ⟨rows, rfl, Sl.of_own h.1, fun y hy => (h.2 y hy).2.row (Sl.of_own (h.2 y hy).1)⟩
theorem OwnV.alloc (h : OwnV w B v n rows) (o : Obj) : OwnV (w.alloc o) B v n rows := h.below ((Below.refl _ _).alloc (Nat.le_refl _) _)
/-- A store into a block that is none of theirs. -/
theorem OwnV.setCell (h : OwnV w B v n rows) {a : Addr} (h1 : v.ownBlock ≠ some a.block) (h2 : ∀ y ∈ rows, (Value.slice y.2.1 y.2.2.1 y.2.2.2).ownBlock ≠ some a.block) (u : Value) : OwnV (w.setCell a u) B v n rows :=
  ⟨ownsRow_setCell_other h.1 h1 u, fun y hy => ⟨ownsRow_setCell_other (h.2 y hy).1 (h2 y hy) u, (h.2 y hy).2⟩⟩
/-- All their blocks lie ahead of the heap's end. -/
theorem OwnV.far (h : OwnV w B v n rows) {g : Nat} (hg : w.heap.size ≤ g) : v.ownBlock ≠ some g ∧ ∀ y ∈ rows, (Value.slice y.2.1 y.2.2.1 y.2.2.2).ownBlock ≠ some g :=
  ⟨fun e => by have := (h.1.lt g e).2; omega, fun y hy e => by have := ((h.2 y hy).1.lt g e).2; omega⟩
/-- One more. -/
theorem OwnV.push {v' : Value} {y : RV} (h : OwnV w B v n rows) (hy : w.ownsRow B 42 3 (.slice y.2.1 y.2.2.1 y.2.2.2) y.2.2.1 (spV y.1.past)) (hf : VFix y.1 y.2.2.1 y.2.2.2)
    (own' : w'.ownsRow B 28 5 v' (n + 1) (rows.flatMap vV1 ++ vV1 y)) (hg : w.grownBy w' v.ownBlock) : OwnV w' B v' (n + 1) (rows ++ [y]) := by
  refine ⟨by simpa using own', fun z hz => ?_⟩
  rcases List.mem_append.1 hz with hz | hz
  · exact ⟨(h.2 z hz).1.kept hg (own_far (h.2 z hz).1 h.1 (by decide)), (h.2 z hz).2⟩
  · rw [List.mem_singleton.1 hz]
    exact ⟨hy.kept hg (own_far hy h.1 (by decide)), hf⟩
end
theorem sl_ver (w : World) (y : RV) (t : TypeId) : Sl (w.alloc (.cells #[.int .i64 y.1.s, .int .i64 y.1.n, .slice y.2.1 y.2.2.1 y.2.2.2, .bool y.1.gone, .string y.1.val] t)) (some ⟨w.heap.size, 0, none⟩) 1 5 (vV1 y) :=
  ⟨rfl, fun _ => ⟨w.heap.size, 0, rfl, fun j u hu => by
    rw [cell_of_row _ w.heap.size (0 + j) _ t (0, 0) (heap_alloc_new w _), Nat.zero_add]
    match j, hu with
    | 0, hu => simpa [vV1, vV] using hu
    | 1, hu => simpa [vV1, vV] using hu
    | 2, hu => simpa [vV1, vV] using hu
    | 3, hu => simpa [vV1, vV] using hu
    | 4, hu => simpa [vV1, vV] using hu⟩⟩

set_option maxHeartbeats 1000000 in
theorem cloneS_any (A : Option Addr) (n c : Nat) (l : List Sp) (w : World) (hs : SlS w A n l) (hn : n * 24 ≤ 140737488351232) :
    Calls Try.prog 38 #[.slice A n c] w fun e w' => ∃ A' c', e = .returned (.slice A' n c') ∧ n ≤ c' ∧ w'.ownsRow w.heap.size 42 3 (.slice A' n c') n (spV l) ∧ Below w.heap.size w w' := by
  obtain ⟨i0, hi, hz0, hz1, hz2⟩ := info_parts Try.infoSpan
  go_enter Try.func38, Try.ntmps38
  go_wp2_with (at_builtin; refine wpList_append_sl _ rfl (.const (.slice none 0 0)) (.tmp 3) 26 rfl (w.heap.size) 42 i0 (.agg #[.int .i64 0, .int .i64 0, .int .i64 0]) 3 24 Try.underlying26 hi hz0 hz1 hz2 rfl (by decide) (.slice none 0 0) (0) ([]) rfl (World.ownsRow_nil _ _ _ _) (A) (n) (c) (spV l) rfl (hs) (spV_one _) (by unfold maxLen; omega) (by omega) (Nat.le_refl _) ?_)
  intro v3 w3 own3 g3 _
  have B3 : Below w.heap.size w w3 := (Below.refl _ _).grown g3 (Nat.le_refl _) (fun q hq => by simp [Value.ownBlock] at hq)
  obtain ⟨A3, c3, rfl, h3, _⟩ := own_slice own3
  clear g3
  go_wp2
  go_ret
  exact ⟨A3, c3, rfl, h3, own3, B3⟩
end Go.Proofs.Ytlcfknpmnoghbaa
