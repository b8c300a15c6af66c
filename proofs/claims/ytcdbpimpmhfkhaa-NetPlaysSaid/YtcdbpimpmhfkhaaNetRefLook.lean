/-
  The document's network: Look, gone.
-/
import Derived.Test.YtcdbpimpmhfkhaaNetRefDo
namespace Go.Proofs.Ytcdbpimpmhfkhaa
open Go.RowKit
set_option linter.unusedVariables false

section
variable {w w' : World} {fp fp' : Nat → Prop} {q : Nat} {l : List Pk} {cl : List K4} {c : Cnt}
theorem RParts.at_ {lv cv : Value} {rows : List RPk} (hp : RParts w fp q l cl c lv cv rows) {k : Nat} {y : RPk} (hy : rows[k]? = some y) :
    ∃ g cc, lv = .slice (some ⟨g, 0, none⟩) l.length cc ∧ w.cell? ⟨q, 0, none⟩ = some (.slice (some ⟨g, 0, none⟩) l.length cc) ∧ (w.cell? ⟨g, k * 5, none⟩ = some (.int .i64 y.1.fs) ∧ w.cell? ⟨g, k * 5 + 1, none⟩ = some (.int .i64 y.1.fn) ∧ w.cell? ⟨g, k * 5 + 2, none⟩ = some (.int .i64 y.1.ts) ∧
      w.cell? ⟨g, k * 5 + 3, none⟩ = some (.int .i64 y.1.tn) ∧ w.cell? ⟨g, k * 5 + 4, none⟩ = some (.slice y.2.1 y.2.2.1 y.2.2.2)) ∧ k < l.length ∧ g < w.heap.size := by
  obtain ⟨h1, h2, h3, h4, h5, h6, h7⟩ := hp
  have hk : k < l.length := by rw [← h4, List.length_map]; exact (List.getElem?_eq_some_iff.1 hy).1
  obtain ⟨g, cc, hv, _, _⟩ := h2.form (by omega)
  subst hv
  have hc := fun r (hr : r < 5) => (h2.cellAt (k * 5 + r) (by omega)).trans (flat_at pkV1_len rows k r y hy hr)
  exact ⟨g, cc, rfl, blk_cell h1 rfl, ⟨hc 0 (by omega), hc 1 (by omega), hc 2 (by omega), hc 3 (by omega), hc 4 (by omega)⟩, hk, (h2.lt g rfl).2⟩
def LookR (w : World) (fp : Nat → Prop) (p : Pk) (b : Bool) (e : Ending) (w' : World) : Prop :=
  ∃ A n k, e = .returned (.tuple #[.agg #[.int .i64 p.fs, .int .i64 p.fn, .int .i64 p.ts, .int .i64 p.tn, .slice A n k], .bool b]) ∧ PkD w' fp (p, A, n, k) ∧ Below w.heap.size w w'
theorem zero_pk (w : World) (fp : Nat → Prop) : PkD w fp (zeroPk, none, 0, 0) := ⟨SlF.nil _ _ _ _ _, Nat.le_refl _, by rw [tokMax_eq]; exact Nat.zero_le _, by decide, by decide, by decide, by decide⟩
set_option maxHeartbeats 2000000 in
theorem refLook_any (i : Int) (h : RNet w fp q l cl c) :
    Calls Try.prog 37 #[.pointer (some ⟨q, 0, none⟩), .int .i64 i] w (LookR w fp ((lookP l i).getD zeroPk) (lookP l i).isSome) := by
  have bA : Below w.heap.size w (w.alloc (.cells #[.int .i64 0, .int .i64 0, .int .i64 0, .int .i64 0, .slice none 0 0] 32)) := (Below.refl _ w).alloc (Nat.le_refl _) _
  have kk : (w.alloc (.cells #[.int .i64 0, .int .i64 0, .int .i64 0, .int .i64 0, .slice none 0 0] 32)).heap[w.heap.size]? = some (.cells #[.int .i64 0, .int .i64 0, .int .i64 0, .int .i64 0, .slice none 0 0] 32 (0, 0)) := heap_alloc_new w _
  have hlq := h.lt _ h.inp
  rcases look_cases l i with ⟨hl, hi⟩ | ⟨k, p, rfl, hk, hp, hl⟩
  · rw [hl]
    obtain ⟨A0, k0, c0, _⟩ := h.len_
    have HK := Lib.hid kk
    clear hl kk bA h
    rcases (show i < 0 ∨ (0 ≤ i ∧ (l.length : Int) ≤ i) by omega) with h1 | ⟨h1, h2⟩
    all_goals
      clear hi
      go_enter Try.func37, Try.ntmps37
      go_wp2
      refine bodyPost_ret (results_cell_row_tmp rfl _ _ w.heap.size 32 #[.int .i64 0, .int .i64 0, .int .i64 0, .int .i64 0, .slice none 0 0] (0, 0) _ rfl (by first | exact HK.out | exact set5_heap HK.out) Try.underlying32 rfl Try.infoPkSize) rfl ?_
      refine ⟨none, 0, 0, rfl, zero_pk _ _, ?_⟩
      first
        | exact (Below.refl _ w).alloc (Nat.le_refl _) _
        | exact ((Below.refl _ w).alloc (Nat.le_refl _) _).trans (set5_fr.below (fun i hi => by omega) (by simp))
  · rw [hl]
    obtain ⟨g, cc, A, n, k2, d0, e0, e1, e2, e3, e4, _, hd, _, hg⟩ := h.at_ hp
    have HK := Lib.hid kk
    have HD := Lib.hid hd
    have i0 : (0 : Int) ≤ (k : Int) := by omega
    have i1 : (k : Int) < (l.length : Int) := by omega
    clear h hl kk hp hd bA
    go_enter Try.func37, Try.ntmps37
    go_wp2
    refine bodyPost_ret (results_cell_row_tmp rfl _ _ w.heap.size 32 #[.int .i64 p.fs, .int .i64 p.fn, .int .i64 p.ts, .int .i64 p.tn, .slice A n k2] (0, 0) _ rfl (by first | exact heap_alloc_new w _ | exact set5_heap HK.out) Try.underlying32 rfl Try.infoPkSize) rfl ?_
    have b : ∀ (o : Obj), Below w.heap.size w (w.alloc o) := fun o => (Below.refl _ w).alloc (Nat.le_refl _) _
    first
      | exact ⟨A, n, k2, rfl, HD.out.kept (Kept.below (b _)), b _⟩
      | exact ⟨A, n, k2, rfl, HD.out.kept (Kept.below ((b _).trans (set5_fr.below (fun i hi => by omega) (by simp)))), (b _).trans (set5_fr.below (fun i hi => by omega) (by simp))⟩
/-- Bytes that were there stay. -/
def Keep8 (w w' : World) : Prop := ∀ (b : Nat) (cs : Array Value), w.heap[b]? = some (.cells cs 5 (0, 0)) → w'.heap[b]? = some (.cells cs 5 (0, 0))
theorem Keep8.below (hb : Below w.heap.size w w') : Keep8 w w' := fun b cs h => (hb.block b (lt_of_block h)).trans h
theorem Keep8.trans {a b d : World} (h : Keep8 a b) (k : Keep8 b d) : Keep8 a d := fun i cs hi => k i cs (h i cs hi)
theorem Keep8.put {t : TypeId} {cs : Array Value} {j : Nat} {u : Value} (hq : w.heap[q]? = some (.cells cs t (0, 0))) (ht : 5 ≠ t) : Keep8 w (w.setCell ⟨q, j, none⟩ u) := fun b cs' h => (Below.heap_setCell w ⟨q, j, none⟩ u b (tag_ne h hq ht)).trans h
theorem PkD.keep8 {y : RPk} (h : PkD w fp y) (k : Keep8 w w') : PkD w' fp y := ⟨h.1.keep fun b cs _ ho => k b cs ho, h.2⟩
theorem RNet.blk (h : RNet w fp q l cl c) : ∃ cs, w.heap[q]? = some (.cells cs 51 (0, 0)) := by
  obtain ⟨lv, cv, rows, h1, _⟩ := h.ex
  exact ⟨_, h1⟩
def GoneTo (w : World) (fp : Nat → Prop) (q : Nat) (l : List Pk) (cl : List K4) (c : Cnt) (e : Ending) (w' : World) : Prop := RTo w fp q l cl c (.tuple #[]) e w' ∧ Keep8 w w'
/-! ### Without one -/
theorem skip_same {α : Type} (l : List α) (k : Nat) : (l.take (k + 1)).eraseIdx k = (l.take k).eraseIdx k := by
  rcases Nat.lt_or_ge k l.length with hk | hk
  · rw [List.take_add_one, List.getElem?_eq_getElem hk]
    have hl : (l.take k).length = k := by rw [List.length_take]; omega
    rw [List.eraseIdx_append_of_length_le (by omega), hl, Nat.sub_self, List.eraseIdx_of_length_le (l := l.take k) (by omega)]
    simp
  · rw [List.take_of_length_le (by omega), List.take_of_length_le (by omega)]
theorem skip_next {α : Type} {l : List α} {k a : Nat} {x : α} (hx : l[k]? = some x) (h : k ≠ a) : (l.take (k + 1)).eraseIdx a = (l.take k).eraseIdx a ++ [x] := by
  have hk := (List.getElem?_eq_some_iff.1 hx).1
  have hl : (l.take k).length = k := by rw [List.length_take]; omega
  rw [List.take_add_one, hx]
  rcases Nat.lt_or_ge a k with h1 | h1
  · rw [List.eraseIdx_append_of_lt_length (by omega)]; rfl
  · rw [List.eraseIdx_of_length_le (l := l.take k) (by omega), List.eraseIdx_of_length_le (by rw [List.length_append, hl]; simp; omega)]; rfl
theorem map_eraseIdx' {α β : Type} {f : α → β} : ∀ (l : List α) (i : Nat), (l.eraseIdx i).map f = (l.map f).eraseIdx i
  | [], _ => rfl
  | _ :: _, 0 => rfl
  | x :: l, i + 1 => by simp only [List.eraseIdx_cons_succ, List.map_cons, map_eraseIdx' l i]
theorem pk_lit (w : World) (y : RPk) (t : TypeId) : Sl (w.alloc (.cells #[.int .i64 y.1.fs, .int .i64 y.1.fn, .int .i64 y.1.ts, .int .i64 y.1.tn, .slice y.2.1 y.2.2.1 y.2.2.2] t)) (some ⟨w.heap.size, 0, none⟩) 1 5 (pkV1 y) :=
  sl_lit w #[.int .i64 y.1.fs, .int .i64 y.1.fn, .int .i64 y.1.ts, .int .i64 y.1.tn, .slice y.2.1 y.2.2.1 y.2.2.2] t w.heap.size 1 5 _ rfl rfl rfl
set_option maxHeartbeats 4000000 in
theorem refGone_any (at_ : Nat) (h : RNet w fp q l cl c) (hat : at_ < l.length) (hl4 : l.length ≤ 4096) :
    Calls Try.prog 42 #[.pointer (some ⟨q, 0, none⟩), .int .i64 (at_ : Int)] w (GoneTo w fp q (l.eraseIdx at_) cl c) := by
  obtain ⟨i0, hi, hz0, hz1, hz2⟩ := info_parts Try.infoPk
  obtain ⟨lv, cv, rows, hp⟩ := h.ex
  obtain ⟨A0, k0, rfl, _, _⟩ := own_slice hp.2.1
  have HC0 := Lib.hid (blk_cell (j := 0) hp.1 rfl)
  have HF0 := Lib.hid (blk_free hp.1 0)
  have HH := Lib.hid h
  have HP := Lib.hid hp
  have HLR := Lib.hid (show rows.length = l.length from by rw [← hp.2.2.2.1, List.length_map])
  have hlq := h.lt _ h.inp
  clear h hp
  go_enter Try.func42, Try.ntmps42
  go_wp2
  go_loopw [4, 5] (fun v i wr => ∃ (k m co : Nat) (Ao : Option Addr), v = .slice Ao m co ∧ i = .int .i64 (k : Int) ∧ k ≤ l.length ∧ m ≤ k ∧ Hid (wr.ownsRow w.heap.size 32 5 (.slice Ao m co) m (((rows.take k).eraseIdx at_).flatMap pkV1)) ∧ Hid (Below w.heap.size w wr)) (fun _ i _ => l.length - (intOf i).toNat)
  case atStart => exact ⟨0, 0, 0, none, rfl, rfl, Nat.zero_le _, Nat.le_refl _, Lib.hid (by simpa using World.ownsRow_nil _ _ _ _), Below.refl _ _⟩
  case round =>
    obtain ⟨k, m, co, Ao, rfl, rfl, hk, hm, HO, HB⟩ := hrel
    by_cases hlt : k < l.length
    · obtain ⟨y, hy⟩ : ∃ y, rows[k]? = some y := ⟨_, List.getElem?_eq_getElem (by rw [HLR.out]; exact hlt)⟩
      obtain ⟨g, cc, e0, d0, ⟨d1, d2, d3, d4, d5⟩, _, hg⟩ := HP.out.at_ hy
      injection e0 with e1 e2 e3
      subst e1 e3
      have x0 := (HB.out.cell (World.block_lt_of_cell? w _ d0)).trans d0
      have x1 := (HB.out.cell (World.block_lt_of_cell? w _ d1)).trans d1
      have x2 := (HB.out.cell (World.block_lt_of_cell? w _ d2)).trans d2
      have x3 := (HB.out.cell (World.block_lt_of_cell? w _ d3)).trans d3
      have x4 := (HB.out.cell (World.block_lt_of_cell? w _ d4)).trans d4
      have x5 := (HB.out.cell (World.block_lt_of_cell? w _ d5)).trans d5
      have i0' : (0 : Int) ≤ (k : Int) := by omega
      have i1' : (k : Int) < (l.length : Int) := by omega
      have hsz := HB.out.size
      by_cases hka : k = at_
      · have HS := Lib.hid (by rw [← hka]; exact skip_same rows k : (rows.take (k + 1)).eraseIdx at_ = (rows.take k).eraseIdx at_)
        have t1 : ((k : Int) != (at_ : Int)) = false := by rw [hka]; simp
        have t2 : ((k : Int) == (at_ : Int)) = true := by rw [hka]; simp
        clear d0 d1 d2 d3 d4 d5 hy hka
        go_wp2
        go_roundw
        case rel => exact ⟨k + 1, m, co, Ao, rfl, by go_num, by omega, by omega, by rw [HS.out]; exact HO, HB⟩
        case measure => simp [intOf]; omega
      · have HS := Lib.hid (skip_next hy hka)
        have t1 : ((k : Int) != (at_ : Int)) = true := by rw [bne_iff_ne]; omega
        have t2 : ((k : Int) == (at_ : Int)) = false := by rw [beq_eq_false_iff_ne]; omega
        obtain ⟨yp, Ay, ny, cy⟩ := y
        simp only at x1 x2 x3 x4 x5
        clear d0 d1 d2 d3 d4 d5 hy hka
        go_wp2_with (first | (at_builtin; refine wpList_append_sl _ rfl (.tmp 18) (.tmp 26) 22 rfl w.heap.size 32 i0 (.agg #[.int .i64 0, .int .i64 0, .int .i64 0, .int .i64 0, .slice none 0 0]) 5 56 Try.underlying22 hi hz0 hz1 hz2 rfl (by decide) (.slice Ao m co) m (((rows.take k).eraseIdx at_).flatMap pkV1) rfl (HO.out.alloc _) (some ⟨wr.heap.size, 0, none⟩) 1 1 (pkV1 (yp, Ay, ny, cy)) rfl (pk_lit wr (yp, Ay, ny, cy) _) (pkV1_one (yp, Ay, ny, cy)) (by unfold maxLen; omega) (by omega) (by simp; omega) ?_) | fail)
        intro v3 w3 own3 g3 _
        obtain ⟨A3, c3, rfl, -, -⟩ := own_slice own3
        have hG := HO.out.alloc (.cells #[.int .i64 yp.fs, .int .i64 yp.fn, .int .i64 yp.ts, .int .i64 yp.tn, .slice Ay ny cy] 32)
        have HB3 := Lib.hid ((HB.out.alloc hsz (.cells #[.int .i64 yp.fs, .int .i64 yp.fn, .int .i64 yp.ts, .int .i64 yp.tn, .slice Ay ny cy] 32)).grown g3 (by simp; omega) (fun r hr => (hG.lt r hr).1))
        have HO3 := Lib.hid (show w3.ownsRow w.heap.size 32 5 (.slice A3 (m + 1) c3) (m + 1) (((rows.take (k + 1)).eraseIdx at_).flatMap pkV1) from by rw [HS.out, List.flatMap_append]; simpa using own3)
        clear own3 g3 hG x0 x1 x2 x3 x4 x5
        go_wp2
        go_roundw
        case rel => exact ⟨k + 1, m + 1, c3, A3, rfl, by go_num, by omega, by omega, HO3, HB3⟩
        case measure => simp [intOf]; omega
    · obtain rfl : k = l.length := by omega
      have x0 := (HB.out.cell (World.block_lt_of_cell? w _ HC0.out)).trans HC0.out
      have ho := HO.out
      rw [List.take_of_length_le (by rw [HLR.out]; exact Nat.le_refl _)] at ho
      have hml : m = (l.eraseIdx at_).length := by
        have e1 := ho.1
        rw [flat_len pkV1_len] at e1
        have e2 : (rows.eraseIdx at_).length = (l.eraseIdx at_).length := by rw [List.length_eraseIdx, List.length_eraseIdx, HLR.out]
        omega
      have HE := Lib.hid (HH.out.relist (rows' := rows.eraseIdx at_) (l' := l.eraseIdx at_) (v3 := .slice Ao m co) HP.out (Fr.of_below HB.out) (by rw [← hml]; exact own_lower ho (Nat.zero_le _)) (fun g hg => .inr (ho.lt g hg).1) (by rw [← HP.out.2.2.2.1]; exact map_eraseIdx' rows at_) (fun y hy => .inr (HP.out.2.2.2.2.1 y (List.mem_of_mem_eraseIdx hy))))
      have z0 := HE.out.2.2.1 0
      clear ho hml
      go_wp2
      refine bodyPost_ret (results_none rfl _ _ _) rfl ?_
      obtain ⟨cs, hcs⟩ := (HH.out.below HB.out).blk
      exact ⟨⟨rfl, _, HE.out.1, HE.out.2.2.2, fun i hi => hi.elim .inl (fun hh => .inr hh.1)⟩, (Keep8.below HB.out).trans (Keep8.put hcs (by decide))⟩
end
end Go.Proofs.Ytcdbpimpmhfkhaa
