/-
  frame.All: its walk.
-/
import Derived.Test.YtoeeiancbiaajaaFrameIter
import Derived.Test.YtoeeiancbiaajaaBytesMem
namespace Go.Proofs.Ytoeeiancbiaajaa
open Go.RowKit Go.Shelf
set_option linter.unusedVariables false
attribute [local go_sem] Oper.semAt_some

set_option maxHeartbeats 1000000 in
theorem frames_in (n : Nat) (A : Option Addr) (len cap : Nat) (p : Option Addr) (w : World) :
    CallsIn Fence.wide n Try.prog 25 #[.slice A len cap, .pointer p] w fun e w' => e = .returned (.func (.func 26) #[] #[.pointer (some ⟨w.heap.size, 0, none⟩), .pointer (some ⟨w.heap.size + 1, 0, none⟩)]) ∧
      w' = (w.alloc (.cells #[.slice A len cap] 22)).alloc (.cells #[.pointer p] 56) := by
  refine callsIn_of_wp Try.func25 rfl trivial ?_ rfl
  simp only [Try.ntmps25, List.size_toArray, List.length_cons, List.length_nil, Nat.reduceAdd, Nat.reduceSub, Array.replicate_succ, Array.replicate_zero, List.push_toArray, List.append_toArray, List.nil_append, List.cons_append]
  gi_wp2
  go_ret
  exact ⟨rfl, rfl⟩

/-- The frames as one reads them behind the call. -/
def AllAns (w : World) (b : List UInt8) (e : Ending) (w' : World) : Prop :=
  ∃ (xs : List Fr) (k : Nat) (er : Int) (A : Option Addr) (n c : Nat), EndFr b xs k er ∧ e = .returned (.tuple #[.slice A n c, .int .i64 (k : Int), .int .i64 er]) ∧ SlBB w' A n (xs.map (·.l)) ∧ n ≤ c ∧ Below w.heap.size w w'

theorem own_ne {W : World} {b1 b2 : Nat} {e1 e2 : TypeId} {s1 s2 : Nat} {v1 v2 : Value} {n1 n2 : Nat} {xs1 xs2 : List Value} (h1 : W.ownsRow b1 e1 s1 v1 n1 xs1) (h2 : W.ownsRow b2 e2 s2 v2 n2 xs2) (he : e1 ≠ e2) :
    v1.ownBlock = none ∨ v1.ownBlock ≠ v2.ownBlock := by
  rcases h1.2 with ⟨rfl, _⟩ | ⟨g, cap, cur, rfl, _, hg, _⟩
  · exact .inl rfl
  · rcases h2.2 with ⟨rfl, _⟩ | ⟨g', cap', cur', rfl, _, hg', _⟩
    · exact .inr (by simp [Value.ownBlock])
    · refine .inr fun h => ?_
      obtain rfl : g = g' := by simpa [Value.ownBlock] using h
      rw [hg] at hg'
      injection hg' with hg'
      injection hg' with _ h2
      exact he h2

/-- What the loop's body keeps to: n0: where the call's own blocks begin; N0: where the loop's. -/
def AllI (w : World) (b : List UInt8) (N0 Bo Ba : Nat) (pre : List Fr) (W : World) : Prop :=
  (∃ v, Boxed W Bo 38 v ∧ W.ownsRow N0 22 1 v pre.length (pre.map Fr.v)) ∧ (∃ k : Nat, Boxed W Ba 3 (.int .i64 (k : Int)) ∧ Went b pre k) ∧
    (∀ x, x ∈ pre → x.n ≤ x.c ∧ W.ownsRow N0 5 1 x.v x.n (bsV x.l)) ∧ Below w.heap.size w W ∧ N0 ≤ W.heap.size

theorem own_kept_row {W W' : World} {row : Option Nat} {N0 : Nat} {e : TypeId} {s : Nat} {v : Value} {n : Nat} {xs : List Value} (h : W.ownsRow N0 e s v n xs) (hg : W.grownBy W' row)
    (hr : ∀ r, row = some r → r < N0 ∨ ∃ o : Obj, W.heap[r]? = some o ∧ o.isCells = false) : W'.ownsRow N0 e s v n xs := by
  refine h.kept hg ?_
  rcases h.2 with ⟨rfl, _⟩ | ⟨g, cap, cur, rfl, hb, hgb, _⟩
  · exact .inl rfl
  · refine .inr fun h => ?_
    rcases hr g h.symm with h | ⟨o, ho, hc⟩
    · omega
    · rw [hgb] at ho; cases ho; cases hc
theorem AllI.kept {w : World} {b : List UInt8} {N0 Bo Ba : Nat} {pre : List Fr} {W W' : World} {row : Option Nat} (h : AllI w b N0 Bo Ba pre W) (hw : w.heap.size ≤ N0) (hg : W.grownBy W' row)
    (hr : ∀ r, row = some r → w.heap.size ≤ r ∧ r ≠ Bo ∧ r ≠ Ba ∧ (r < N0 ∨ ∃ o : Obj, W.heap[r]? = some o ∧ o.isCells = false)) : AllI w b N0 Bo Ba pre W' := by
  obtain ⟨⟨v, hv, hrow⟩, ⟨k, hk, hw'⟩, hall, hB, hN⟩ := h
  exact ⟨⟨v, hv.kept hg (fun e => (hr Bo e.symm).2.1 rfl), own_kept_row hrow hg (fun r e => (hr r e).2.2.2)⟩, ⟨k, hk.kept hg (fun e => (hr Ba e.symm).2.2.1 rfl), hw'⟩,
    fun x hx => ⟨(hall x hx).1, own_kept_row (hall x hx).2 hg (fun r e => (hr r e).2.2.2)⟩, hB.grown hg (Nat.le_trans hw hN) (fun r e => (hr r e).1), Nat.le_trans hN hg.size⟩
theorem Boxed.not_book {W : World} {B : Nat} {t : TypeId} {v : Value} (h : Boxed W B t v) {l : Nat} (hl : ∃ o : Obj, W.heap[l]? = some o ∧ o.isCells = false) : l ≠ B := by
  rintro rfl
  obtain ⟨o, ho, hc⟩ := hl
  rw [show W.heap[l]? = _ from h] at ho; cases ho; cases hc

/-- One round: the append, its two stores. -/
theorem all_step {w : World} {b : List UInt8} {N0 Bo Ba : Nat} {pre : List Fr} {x : Fr} {W w1 : World} {v v' : Value} {k : Nat} (tmp : Obj) (hw : w.heap.size ≤ N0) (q1 : w.heap.size ≤ Bo) (q2 : w.heap.size ≤ Ba) (q3 : Bo < N0) (q4 : Ba < N0) (q5 : Bo ≠ Ba)
    (hv : Boxed W Bo 38 v) (hrow : W.ownsRow N0 22 1 v pre.length (pre.map Fr.v)) (hk : Boxed W Ba 3 (.int .i64 (k : Int))) (hwt : Went b pre k)
    (hall : ∀ x, x ∈ pre → x.n ≤ x.c ∧ W.ownsRow N0 5 1 x.v x.n (bsV x.l)) (hB : Below w.heap.size w W) (hN : N0 ≤ W.heap.size) (ok : OkFr N0 b pre x W)
    (hown : w1.ownsRow N0 22 1 v' (pre.length + 1) (pre.map Fr.v ++ [x.v])) (hgrow : (W.alloc tmp).grownBy w1 v.ownBlock) :
    Boxed w1 Bo 38 v ∧ Boxed (w1.setCell ⟨Bo, 0, none⟩ v') Ba 3 (.int .i64 (k : Int)) ∧
      KeepsOthers W ((w1.setCell ⟨Bo, 0, none⟩ v').setCell ⟨Ba, 0, none⟩ (.int .i64 (x.en : Int))) ∧ KpFr N0 Bo Ba W ((w1.setCell ⟨Bo, 0, none⟩ v').setCell ⟨Ba, 0, none⟩ (.int .i64 (x.en : Int))) ∧
      AllI w b N0 Bo Ba (pre ++ [x]) ((w1.setCell ⟨Bo, 0, none⟩ v').setCell ⟨Ba, 0, none⟩ (.int .i64 (x.en : Int))) := by
  obtain ⟨a1, a2, _, a4, a5⟩ := hv.appended (n₀ := w.heap.size) (by decide) (own_lower hrow hw) hB.size q1 (own_lower hown hw) hgrow
  have hk1 : Boxed w1 Ba 3 (.int .i64 (k : Int)) := (hk.alloc tmp).kept hgrow (hk.not_row (by decide) hrow)
  have hk2 := hk1.kept (grownBy_setCell' w1 Bo v') (by simp; omega)
  have rowlt : ∀ r, v.ownBlock = some r → N0 ≤ r := fun r e => (hrow.lt r e).1
  have g2 := grownBy_setCell' w1 Bo v'
  have g3 := grownBy_setCell' (w1.setCell ⟨Bo, 0, none⟩ v') Ba (.int .i64 (x.en : Int))
  have hsz : (W.alloc tmp).heap.size = W.heap.size + 1 := by simp
  have hs1 := hgrow.size
  refine ⟨a1, hk2, a4.trans (KeepsOthers.setCell _ _ _), ⟨?_, ?_⟩, ⟨v', ?_, ?_⟩, ⟨x.en, Boxed.set _ hk2, ?_⟩, ?_, ?_, ?_⟩
  · have := g2.size; have := g3.size; omega
  · intro j h1 h2 h3
    rw [g3.block j (by have := g2.size; omega) (by simpa using h3), g2.block j (by omega) (by simpa using h2), hgrow.block j (by omega) (fun e => by have := rowlt j e.symm; omega)]
    exact Below.heap_alloc _ _ _ (by omega)
  · exact a2.kept g3 (by simp; omega)
  · rw [List.length_append, List.map_append]
    exact own_kept_row (own_kept_row hown g2 (fun r e => by cases e; exact .inl q3)) g3 (fun r e => by cases e; exact .inl q4)
  · obtain ⟨⟨k', h1, h2, h3⟩, _⟩ := ok
    exact Went.snoc h1 h2 h3
  · have key : ∀ y : Fr, W.ownsRow N0 5 1 y.v y.n (bsV y.l) → ((w1.setCell ⟨Bo, 0, none⟩ v').setCell ⟨Ba, 0, none⟩ (.int .i64 (x.en : Int))).ownsRow N0 5 1 y.v y.n (bsV y.l) := fun y hy =>
      own_kept_row (own_kept_row ((hy.alloc tmp).kept hgrow (own_ne hy hrow (by decide))) g2 (fun r e => by cases e; exact .inl q3)) g3 (fun r e => by cases e; exact .inl q4)
    intro y hy
    rcases List.mem_append.1 hy with h | h
    · exact ⟨(hall y h).1, key y (hall y h).2⟩
    · obtain rfl := List.mem_singleton.1 h
      exact ⟨ok.2.1, key y ok.2.2⟩
  · exact (hB.trans a5).setCell (p := ⟨Ba, 0, none⟩) q2 _
  · have := g2.size; have := g3.size; omega

theorem Went.last {b : List UInt8} {xs : List Fr} {k : Nat} (h : Went b xs k) : k = (xs.getLast?.map (·.en)).getD 0 := by
  cases h with
  | nil => rfl
  | snoc _ _ _ => simp
theorem Went.short {b : List UInt8} {xs : List Fr} {k : Nat} (h : Went b xs k) : ∀ x, x ∈ xs → x.l.length ≤ 1048576 := by
  induction h with
  | nil => simp
  | snoc _ _ hn ih =>
    intro y hy
    rcases List.mem_append.1 hy with h | h
    · exact ih y h
    · obtain rfl := List.mem_singleton.1 h
      exact (nextF_grows hn).2.2
theorem slbb_of_rows {W : World} {N0 : Nat} {A : Option Addr} {c : Nat} {xs : List Fr} (h : W.ownsRow N0 22 1 (.slice A xs.length c) xs.length (xs.map Fr.v))
    (hall : ∀ x, x ∈ xs → x.n ≤ x.c ∧ W.ownsRow N0 5 1 x.v x.n (bsV x.l)) (hs : ∀ x, x ∈ xs → x.l.length ≤ 1048576) : SlBB W A xs.length (xs.map (·.l)) := by
  refine ⟨by simp, fun hn => ?_⟩
  obtain ⟨g, cap, hv, _⟩ := h.form hn
  injection hv with h1 h2 h3
  subst h1 h3
  refine ⟨g, 0, rfl, fun k l hl => ?_⟩
  obtain ⟨x, hx, rfl⟩ : ∃ x, xs[k]? = some x ∧ x.l = l := by simpa using hl
  have hk : k < xs.length := (List.getElem?_eq_some_iff.1 hx).1
  have hm := List.mem_of_getElem? hx
  obtain ⟨m1, m2⟩ := hall x hm
  have hl := m2.1
  rw [bsV_length] at hl
  refine ⟨x.A, x.n, x.c, ?_, Sl.of_own m2, m1, by have := hs x hm; omega⟩
  rw [Nat.zero_add, h.cellAt k (by omega)]
  simp [hx, Fr.v]
theorem all_boxes (w W0 : World) (v p : Value) (h : W0 = ((((w.alloc (.cells #[.slice none 0 0] 38)).alloc (.cells #[.int .i64 0] 27)).alloc (.cells #[.int .i64 0] 3)).alloc (.cells #[v] 22)).alloc (.cells #[p] 56)) :
    W0.heap.size = w.heap.size + 5 ∧ Boxed W0 w.heap.size 38 (.slice none 0 0) ∧ Boxed W0 (w.heap.size + 1) 27 (.int .i64 0) ∧ Boxed W0 (w.heap.size + 1 + 1) 3 (.int .i64 0) ∧
      Boxed W0 (w.heap.size + 1 + 1 + 1) 22 v ∧ Boxed W0 (w.heap.size + 1 + 1 + 1 + 1) 56 p ∧ Below w.heap.size w W0 := by
  subst h
  have b0 := Boxed.new w 38 (.slice none 0 0)
  have b1 := Boxed.new (w.alloc (.cells #[.slice none 0 0] 38)) 27 (.int .i64 0)
  have b2 := Boxed.new ((w.alloc (.cells #[.slice none 0 0] 38)).alloc (.cells #[.int .i64 0] 27)) 3 (.int .i64 0)
  have b3 := Boxed.new (((w.alloc (.cells #[.slice none 0 0] 38)).alloc (.cells #[.int .i64 0] 27)).alloc (.cells #[.int .i64 0] 3)) 22 v
  have b4 := Boxed.new ((((w.alloc (.cells #[.slice none 0 0] 38)).alloc (.cells #[.int .i64 0] 27)).alloc (.cells #[.int .i64 0] 3)).alloc (.cells #[v] 22)) 56 p
  simp only [World.size_alloc] at b0 b1 b2 b3 b4
  exact ⟨by simp, (((b0.alloc _).alloc _).alloc _).alloc _, ((b1.alloc _).alloc _).alloc _, (b2.alloc _).alloc _, b3.alloc _, b4,
    (((((Below.refl _ w).alloc (Nat.le_refl _) _).alloc (by simp) _).alloc (by simp; omega) _).alloc (by simp; omega) _).alloc (by simp; omega) _⟩
theorem Try.infoBytes : (Try.prog.info? 22).map (fun i => (i.zero, i.size, i.bytes)) = some (some (.slice none 0 0), 1, 24) := by kernel_rfl

set_option maxHeartbeats 2000000 in
set_option maxRecDepth 100000 in
theorem frameAll_any (A : Option Addr) (len cap : Nat) (b : List UInt8) (w : World) (hS : SlB w A len b) (hc : len ≤ cap) (hlen : len ≤ 1099511627776) :
    Calls Try.prog 17 #[.slice A len cap] w (AllAns w b) := by
  obtain ⟨i0, hi, hz0, hz1, hz2⟩ := info_parts Try.infoBytes
  have hbl := hS.len
  refine (callsIn_wide (n := 3)).1 ?_
  refine callsIn_of_wp_marks Try.func17 rfl trivial ?_ rfl
  simp only [Try.ntmps17, List.size_toArray, List.length_cons, List.length_nil, Nat.reduceAdd, Nat.reduceSub, Array.replicate_succ, Array.replicate_zero, List.push_toArray, List.append_toArray, List.nil_append, List.cons_append]
  gi_wp2_with (refine ⟨trivial, ?_⟩; gi_at_call 25; refine (frames_in _ _ _ _ _ _).mono ?_; rintro e w' ⟨rfl, rfl⟩)
  generalize hW : World.alloc _ (.cells #[.pointer (some ⟨w.heap.size + 1, 0, none⟩)] 56) = W0
  obtain ⟨hsz, bO, bE, bA, bB, bP, hB0⟩ := all_boxes w W0 _ _ hW.symm
  clear hW
  refine wpIn_rangeFunc_seen (F := Fence.wide) (n := 3) rfl (by decide) (gf := 26) (lb := #[.pointer (some ⟨w.heap.size + 1 + 1 + 1, 0, none⟩), .pointer (some ⟨w.heap.size + 1 + 1 + 1 + 1, 0, none⟩)]) rfl trivial (enters_of Try.func26 (by kernel_rfl) rfl) encFr (fun _ => rfl)
    (KpFr (w.heap.size + 5) w.heap.size (w.heap.size + 1 + 1)) (fun h k => h.trans k) (fun W l o hl => ⟨by simp, fun k h1 _ _ => World.putObj_heap_other (by omega)⟩)
    (AllI w b (w.heap.size + 5) w.heap.size (w.heap.size + 1 + 1)) (OkFr (w.heap.size + 5) b) (FinFr (w.heap.size + 1) b) (· = w.heap.size + 1) (fun r h => by omega)
    (fun xs W l o h ⟨hl, o', ho, hc⟩ => h.kept (by omega) (grownBy_putObj' W l o) (fun r e => by cases e; exact ⟨by omega, by omega, by omega, .inr ⟨o', ho, hc⟩⟩))
    (fun pre x W l o h ⟨hl, o', ho, hc⟩ => ⟨h.1, h.2.1, own_kept_row h.2.2 (grownBy_putObj' W l o) (fun r e => by cases e; exact .inr ⟨o', ho, hc⟩)⟩)
    (fun xs W l o ⟨k, e, h1, h2⟩ ⟨hl, _⟩ => ⟨k, e, h1, h2.kept (grownBy_putObj' W l o) (by simp; omega)⟩)
    (fun xs W W' h ⟨row, hg, hr⟩ => h.kept (by omega) hg (fun r e => by have := hr r e; exact ⟨by omega, by omega, by omega, .inl (by omega)⟩))
    ⟨⟨_, bO, World.ownsRow_nil _ _ _ _⟩, ⟨0, bA, .nil⟩, by simp, hB0, by omega⟩
    (fun l J W hg hJr hY h0 => framesIter_in 2 (by decide) l (w.heap.size + 1 + 1 + 1) (w.heap.size + 1 + 1 + 1 + 1) (w.heap.size + 1) (w.heap.size + 5) w.heap.size (w.heap.size + 1 + 1) w.heap.size A len cap b J W
      (by omega) (by omega) (by omega) (by have := hg.size; omega) (by omega) (by omega) (by omega) (by omega) (by omega) (by omega) (by omega) (by omega) (by omega) (by omega) (by omega) (by omega)
      (bB.kept hg (by simp)).cell (bP.kept hg (by simp)).cell (bE.kept hg (by simp)) (Sl.below hS (hB0.grown hg (by omega) (fun k e => by cases e))) (fun k off e hn => by
        obtain ⟨k', off', e', hcc⟩ := hS.2 (by omega)
        rw [e] at e'
        injection e' with e'
        injection e' with e1 e2
        subst e1 e2
        have h0 : 0 < (bsV b).length := by rw [hS.1]; omega
        exact World.block_lt_of_cell? w _ (hcc 0 _ (List.getElem?_eq_getElem h0))) hc hlen hJr hY h0)
    (fun x => { tmps := #[.slice A len cap, undef, .slice none 0 0, .int .i64 0, .int .i64 0, .pointer (some ⟨w.heap.size, 0, none⟩), .pointer (some ⟨w.heap.size + 1, 0, none⟩), .pointer (some ⟨w.heap.size + 1 + 1, 0, none⟩),
      .slice x.A x.n x.c, .int .i64 (x.en : Int), .slice A len cap, .func (.func 26) #[] #[.pointer (some ⟨w.heap.size + 1 + 1 + 1, 0, none⟩), .pointer (some ⟨w.heap.size + 1 + 1 + 1 + 1, 0, none⟩)], .slice x.A x.n x.c, .int .i64 (x.en : Int), undef, undef, undef, undef, undef, undef, undef, undef], defers := [] }) ?assign ?body ?done
  case assign =>
    intro l x W K hK
    simp only [encFr, Fr.v]
    gi_wp2
    exact hK
  case body =>
    rintro l pre x W ⟨⟨v, hv, hrow⟩, ⟨k, hk, hwt⟩, hall, hB, hN⟩ ok
    have hcell := hv.cell
    have hle := hwt.le
    gi_wp2_with
      (gi_at_builtin
       refine wpListIn_append_own _ rfl _ _ 38 rfl (w.heap.size + 5) 22 i0 (.slice none 0 0) 1 24 Try.underlying38 hi hz0 hz1 hz2 rfl (by decide) _ _ _ rfl (hrow.alloc _) ⟨W.heap.size, 0, none⟩ 1 1 [x.v] rfl rfl (cell_one_new _ _ _) (by simp [Value.oneCell', Fr.v]) (by unfold maxLen; omega) (by omega) (by simp; omega) ?_
       intro v' w1 hown' hgrow _
       obtain ⟨g', cap', rfl⟩ := ownsRow_succ hown'
       obtain ⟨s1, s2, s3, s4, s5⟩ := all_step _ (by omega) (Nat.le_refl _) (by omega) (by omega) (by omega) (by omega) hv hrow hk hwt hall hB hN ok hown' hgrow
       have hc1 := s1.cell
       have hf1 := s1.frozen
       have hc2 := s2.cell
       have hf2 := s2.frozen)
  case done =>
    rintro D xs W hD ⟨⟨v, hv, hrow⟩, ⟨k, hk, hwt⟩, hall, hB, hN⟩ ⟨k', er, he, hE⟩ hK
    obtain rfl : k' = k := he.1.last.trans hwt.last.symm
    obtain ⟨Ao, co, rfl, hco, -⟩ := own_slice hrow
    have c1 := hv.cell
    have c2 := hk.cell
    have c3 := hE.cell
    have hmx : Try.prog.follows .mixedOrders = true := by kernel_rfl
    gi_wp2
    gi_region_o
    all_goals gi_wp2
    all_goals refine ⟨by simp, .inl ⟨_, _, rfl, run_takeDeferred hK, ?_⟩⟩
    refine ⟨_, results_tmp3 rfl _ _ _, xs, k', er, Ao, xs.length, co, he, rfl, ?_, hco, ?_⟩
    · exact slbb_of_rows (ownsRow_putObj (W := W.drew) hrow _ hK rfl) (fun x hx => ⟨(hall x hx).1, ownsRow_putObj (W := W.drew) (hall x hx).2 _ hK rfl⟩) hwt.short
    · exact (show Below w.heap.size w W.drew from below_drewN hB 1).trans (belowK_b (w := w) (Nat.le_refl _) W.drew D _ _ (by omega) hK rfl rfl)
end Go.Proofs.Ytoeeiancbiaajaa
