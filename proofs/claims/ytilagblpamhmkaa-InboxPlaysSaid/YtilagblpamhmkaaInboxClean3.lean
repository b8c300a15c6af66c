/-
  slices.DeleteFunc with Clean's function.
-/
import Derived.Test.YtilagblpamhmkaaInboxClean2
import Derived.Test.YtilagblpamhmkaaInboxDelete
namespace Go.Proofs.Ytilagblpamhmkaa
open Go.RowKit
set_option linter.unusedVariables false

def zN (m : Nat) : List Value := (Builtin.zeroCells (Value.agg #[.int .i64 0, .int .i64 0, .string ⟨#[]⟩, .slice none 0 0, .slice none 0 0]).cells m).toList
theorem zN_len (m : Nat) : (zN m).length = m * 5 := by
  have : (Value.agg #[.int .i64 0, .int .i64 0, .string ⟨#[]⟩, .slice none 0 0, .slice none 0 0]).cells.size = 5 := by kernel_rfl
  simp [zN, Builtin.zeroCells, this]
theorem zN_one (m : Nat) : ∀ u ∈ zN m, u.oneCell' = true := by
  have h5 : (Value.agg #[.int .i64 0, .int .i64 0, .string ⟨#[]⟩, .slice none 0 0, .slice none 0 0]).cells = #[.int .i64 0, .int .i64 0, .string ⟨#[]⟩, .slice none 0 0, .slice none 0 0] := by kernel_rfl
  intro u hu
  unfold zN Builtin.zeroCells at hu
  rw [h5] at hu
  simp only [Array.toList_map, List.mem_map] at hu
  obtain ⟨i, _, rfl⟩ := hu
  have : i % 5 = 0 ∨ i % 5 = 1 ∨ i % 5 = 2 ∨ i % 5 = 3 ∨ i % 5 = 4 := by omega
  rcases this with h | h | h | h | h <;> simp [h] <;> rfl
theorem run_clear_fars (w : World) (ty : TypeId) (g o c m : Nat) (hm : 0 < m) (hc : ∀ j, j < m * 5 → (w.cell? ⟨g, o + j, none⟩).isSome = true) (hf : ∀ j, j < m * 5 → w.frozen? ⟨g, o + j, none⟩ = false) :
    (Builtin.clear_ #[22] ty #[.slice (some ⟨g, o, none⟩) m c]).run Try.prog w = .ok (.tuple #[]) (w.setCells g o (zN m)) := by
  have hst := run_storeCells_cells (P := Try.prog) g o (zN m) 0 w (by rw [zN_len]; simpa using hc) (by rw [zN_len]; simpa using hf) (by exact zN_one m)
  simp only [Nat.add_zero] at hst
  unfold zN at hst ⊢
  cases m with
  | zero => omega
  | succ m => simp [Builtin.clear_, run_underlying Try.underlying22, hst]
/-- What is left of a list, and what is told. -/
def DelTo (w : World) (g B ob : Nat) (v : List Int) (A : Option Addr) (c : Nat) (rows : List RFa) (e : Ending) (w' : World) : Prop :=
  ∃ n', e = .returned (.slice A n' c) ∧ n' = (keepR v rows).length ∧ OutS w' B ob (goneR v rows) ∧ w'.ownsRow 0 35 5 (.slice A n' c) n' ((keepR v rows).flatMap fV1) ∧ Fr (fun b => (b = g ∧ rows ≠ []) ∨ b = ob ∨ B ≤ b) w w' ∧ Fr (fun b => b = g ∨ b = ob ∨ B ≤ b) w w'
/-- In the midst of it. -/
structure DelI (w : World) (g kc n B ob : Nat) (v : List Int) (rows : List RFa) (j i : Nat) (wr : World) : Prop where
  len : (keepR v (rows.take j)).length = i
  lt : i < j
  cut : CutI wr g kc n rows j (keepR v (rows.take j))
  out : OutS wr B ob (goneR v (rows.take j))
  fr : Fr (fun b => b = g ∨ b = ob ∨ B ≤ b) w wr
theorem row_of_cut {w w2 : World} {g kc n i : Nat} {rows ks : List RFa} (h : CutI w g kc n rows n ks) (hi : ks.length = i) (hin : i ≤ kc) (hkc : kc ≤ maxLen) {vs : List Value} (hvs : i * 5 + vs.length ≤ kc * 5) (h2 : w2 = w.setCells g (i * 5) vs) :
    w2.ownsRow 0 35 5 (.slice (some ⟨g, 0, none⟩) i kc) i (ks.flatMap fV1) ∧ Fr (fun b => b = g) w w2 := by
  obtain ⟨cur, h1, hs, h3, h4⟩ := h.ex
  have hp := setCells_heap vs (i * 5) w cur h1
  subst h2
  refine ⟨⟨by rw [flat_len fV1_len, hi], .inr ⟨g, kc, _, rfl, Nat.zero_le _, hp, hin, hkc, by rw [putL_size]; exact hs, ?_⟩⟩, setCells_fr vs _ _⟩
  apply List.ext_getElem?
  intro j
  rw [List.getElem?_take]
  by_cases hj : j < i * 5
  · rw [if_pos hj, Array.getElem?_toList, putL_get _ _ _ _ (by omega), if_neg (by omega)]
    obtain ⟨m, r, hr, rfl⟩ : ∃ m r, r < 5 ∧ j = m * 5 + r := ⟨j / 5, j % 5, by omega, by omega⟩
    obtain ⟨y, hy⟩ : ∃ y, ks[m]? = some y := ⟨_, List.getElem?_eq_getElem (by omega)⟩
    rw [h3 m y r hy hr]
    exact (flat_at fV1_len ks m r y hy hr).symm
  · rw [if_neg hj, List.getElem?_eq_none (by rw [flat_len fV1_len]; omega)]
theorem OutS.kept {w w' : World} {B ob : Nat} {R : List RFa} (h : OutS w B ob R) (hk : Kept (fun b => b = ob ∨ B ≤ b) w w') : OutS w' B ob R := by
  obtain ⟨A, n, c, h1, h2⟩ := h
  exact ⟨A, n, c, hk _ _ (.inl rfl) h1, own_keep h2 (fun q hq => .inr (h2.lt q hq).1) hk⟩
theorem OutS.young {w : World} {B ob : Nat} {R : List RFa} (h : OutS w B ob R) {w' : World} (b : Below w.heap.size w w') : ∀ A n c q, w'.heap[ob]? = some (.cells #[.slice A n c] 22 (0, 0)) → (Value.slice A n c).ownBlock = some q → q < w.heap.size := by
  obtain ⟨A, n, c, h1, h2⟩ := h
  intro A' n' c' q hq hown
  rw [(b.block _ (lt_of_block h1)).trans h1] at hq
  injection hq with hq
  injection hq with hq
  have e : (Value.slice A n c) = .slice A' n' c' := by
    have := congrArg (fun a : Array Value => a[0]?) hq
    simpa using this
  rw [← e] at hown
  exact (h2.lt q hown).2
theorem goneR_len (v : List Int) (rows : List RFa) : (goneR v rows).length ≤ rows.length := List.length_filter_le _ _
section
variable {w wr w4 : World} {g kc n B ob : Nat} {v : List Int} {rows : List RFa} {j i : Nat} {z : RFa}
theorem DelI.yes (h : DelI w g kc n B ob v rows j i wr) (hz : rows[j]? = some z) (hc : covB v z.1 = true) (ho : OutS w4 B ob (goneR v (rows.take j) ++ [z])) (F : Fr (fun b => b = ob ∨ B ≤ b) wr w4) (hg : g ≠ ob ∧ g < B) (hgs : g < wr.heap.size) : DelI w g kc n B ob v rows (j + 1) i w4 := by
  obtain ⟨e1, e2⟩ := keepR_yes hz hc
  refine ⟨by rw [e1]; exact h.len, by have := h.lt; omega, by rw [e1]; exact h.cut.skip.keep (F.block g hgs (by omega)), by rw [e2]; exact ho, h.fr.trans F (fun i hi => .inl (.inr hi))⟩
theorem DelI.no (h : DelI w g kc n B ob v rows j i wr) (hz : rows[j]? = some z) (hc : covB v z.1 = false) (hjk : j < kc) (ho : OutS w4 B ob (goneR v (rows.take j))) (F : Fr (fun b => b = ob ∨ B ≤ b) wr w4) (hg : g ≠ ob ∧ g < B) (hgs : g < wr.heap.size) :
    DelI w g kc n B ob v rows (j + 1) (i + 1) (set5o w4 g (i * 5) (.int .i64 z.1.src) (.int .i64 z.1.seq) (.string z.1.rc.key) (.slice z.2.1.1 z.2.1.2.1 z.2.1.2.2) (.slice z.2.2.1 z.2.2.2.1 z.2.2.2.2)) := by
  obtain ⟨e1, e2⟩ := keepR_no hz hc
  have hl := h.len
  refine ⟨by rw [e1, List.length_append, hl]; rfl, by have := h.lt; omega, by rw [e1]; exact (h.cut.keep (F.block g hgs (by omega))).put hl h.lt hjk, by rw [e2]; exact ho.kept (set5o_fr.kept fun b hb e => by omega), (h.fr.trans F (fun i hi => .inl (.inr hi))).trans set5o_fr (fun i hi => .inl (.inl hi))⟩
end
set_option maxHeartbeats 8000000 in
set_option maxRecDepth 100000 in
theorem deleteF_any {w : World} {fp : Nat → Prop} {rows : List RFa} {v : List Int} {g ab ob B : Nat} {Av : Option Addr} {nv cv : Nat} (A : Option Addr) (n c : Nat) (hr : w.ownsRow 0 35 5 (.slice A n c) n (rows.flatMap fV1)) (hAg : ∀ b off, A = some ⟨b, off, none⟩ → b = g) (hn : n * 80 ≤ 140737488355328)
    (hE : CEnv w fp rows v g ab ob B Av nv cv) (ho : OutS w B ob []) :
    Calls Try.prog 45 #[.slice A n c, .func (.func 46) #[] #[.pointer (some ⟨ab, 0, none⟩), .pointer (some ⟨ob, 0, none⟩)]] w (DelTo w g B ob v A c rows) := by
  have hrl : rows.length = n := by have := hr.1; rw [flat_len fV1_len] at this; omega
  have CI := Lib.hid (index_clean A n c (Sl.of_own hr) hAg hn hE ho)
  have HEE := Lib.hid hE
  have HRL := Lib.hid hrl
  have HRR := Lib.hid hr
  have HG := Lib.hid hAg
  clear hr hrl hAg hE ho
  go_enter Try.func45, Try.ntmps45
  go_wp2_with fail
  refine CI.out.mono ?_
  rintro e w2 ⟨F2, ⟨rfl, hall, o2⟩ | ⟨k, y, rfl, hy, hkeep, hgone, o2⟩⟩
  · have hk := keepR_all hall
    have HE := Lib.hid (show DelTo w g B ob v A c rows (.returned (.slice A n c)) w2 from ⟨n, rfl, by rw [hk.1]; exact HRL.out.symm, by rw [hk.2]; exact o2, by
      rw [hk.1]
      refine own_keep HRR.out (fp := fun b => b ≠ ob ∧ b < B) (fun q hq => ?_) (F2.kept fun i hi hh => by omega)
      have hq2 : A = some ⟨q, 0, none⟩ := by
        rcases HRR.out.2 with ⟨e, _⟩ | ⟨g', cap, cur, e, _⟩
        · rw [e] at hq; cases hq
        · rw [e] at hq
          injection e with e1
          injection hq with hq
          rw [e1]
          exact congrArg some (by rw [show g' = q from hq])
      have hqg := HG.out q 0 hq2
      have := HEE.out.gB
      have := HEE.out.obg
      omega, F2.mono (fun i hi => .inl (.inr hi)), F2.mono (fun i hi => .inl (.inr hi))⟩)
    clear F2 hall o2 hk CI
    go_wp2
    go_ret
    exact HE.out
  · have hkn : k < n := by rw [← HRL.out]; exact (List.getElem?_eq_some_iff.1 hy).1
    obtain ⟨kc, cur, hA, hg, hk1, hk2, hcs, htk⟩ : ∃ (kc : Nat) (cur : Array Value), (A = some ⟨g, 0, none⟩ ∧ c = kc) ∧ w.heap[g]? = some (.cells cur 35 (0, 0)) ∧ n ≤ kc ∧ kc ≤ maxLen ∧ cur.size = kc * 5 ∧ rows.flatMap fV1 = cur.toList.take (n * 5) := by
      rcases HRR.out.2 with ⟨_, h0⟩ | ⟨g', kc, cur, e, _, hg, hk1, hk2, hcs, htk⟩
      · omega
      · injection e with e1 _ e3
        have e4 := HG.out g' 0 e1
        subst e4
        exact ⟨kc, cur, ⟨e1, e3⟩, hg, hk1, hk2, hcs, htk.symm⟩
    obtain ⟨rfl, rfl⟩ := hA
    have hgs := lt_of_block hg
    have hgB : g ≠ ob ∧ g < B := ⟨fun e => HEE.out.obg e.symm, HEE.out.gB⟩
    have h0 : DelI w g c n B ob v rows (k + 1) k w2 := by
      refine ⟨by rw [hkeep, List.length_take]; rw [HRL.out]; omega, by omega, ⟨cur, (F2.block g hgs (by omega)).trans hg, hcs, ?_, ?_⟩, by rw [hgone]; exact o2, F2.mono (fun i hi => .inl (.inr hi))⟩
      · intro m z r hm hr
        rw [hkeep] at hm
        have hm2 : m < k := by have := (List.getElem?_eq_some_iff.1 hm).1; rw [List.length_take] at this; omega
        rw [List.getElem?_take, if_pos hm2] at hm
        have h1 := flat_at fV1_len rows m r z hm hr
        rw [htk, List.getElem?_take, if_pos (by omega), Array.getElem?_toList] at h1
        exact h1
      · intro m z r _ hm hr
        have hm2 := (List.getElem?_eq_some_iff.1 hm).1
        have h1 := flat_at fV1_len rows m r z hm hr
        rw [htk, List.getElem?_take, if_pos (by have := HRL.out; omega), Array.getElem?_toList] at h1
        exact h1
    have H0 := Lib.hid h0
    have HGB := Lib.hid hgB
    have HMX := Lib.hid hk2
    have qk : ((k : Int) == -1) = false := beq_eq_false_iff_ne.2 (by omega)
    clear F2 hy hkeep hgone o2 hg hcs htk hgB h0 CI HG HRR hk2
    go_wp2_with fail
    go_loopw [5, 6] (fun t5 t6 wr => ∃ (j i : Nat), t5 = .int .i64 (i : Int) ∧ t6 = .int .i64 (j : Int) ∧ j ≤ n ∧ Hid (DelI w g c n B ob v rows j i wr)) (fun _ t6 _ => n - (intOf t6).toNat)
    case atStart => exact ⟨k + 1, k, rfl, rfl, by omega, H0⟩
    case round =>
      clear H0
      obtain ⟨j, i, rfl, rfl, hj, HD⟩ := hrel
      have hij := HD.out.lt
      have hgr : g < wr.heap.size := Nat.lt_of_lt_of_le hgs HD.out.fr.size
      by_cases hlt : j < n
      · obtain ⟨z, hz⟩ : ∃ z, rows[j]? = some z := ⟨_, List.getElem?_eq_getElem (by rw [HRL.out]; exact hlt)⟩
        obtain ⟨cur, e1, e2, e3, e4⟩ := HD.out.cut.ex
        have up : ∀ r u, r < 5 → (fV1 z)[r]? = some u → wr.cell? ⟨g, j * 5 + r, none⟩ = some u := fun r u h1 h2 => by rw [cell_of_row wr g _ _ _ (0, 0) e1]; exact (e4 j z r (Nat.le_refl _) hz h1).trans h2
        have x0 : wr.cell? ⟨g, j * 5, none⟩ = some (.int .i64 z.1.src) := up 0 _ (by omega) rfl
        have x1 := up 1 _ (by omega) rfl
        have x2 := up 2 _ (by omega) rfl
        have x3 := up 3 _ (by omega) rfl
        have x4 := up 4 _ (by omega) rfl
        have bA : Below wr.heap.size wr (wr.alloc (.cells #[.int .i64 z.1.src, .int .i64 z.1.seq, .string z.1.rc.key, .slice z.2.1.1 z.2.1.2.1 z.2.1.2.2, .slice z.2.2.1 z.2.2.2.1 z.2.2.2.2] 35)) := (Below.refl _ _).alloc (Nat.le_refl _) _
        have kA := heap_alloc_new wr (.cells #[.int .i64 z.1.src, .int .i64 z.1.seq, .string z.1.rc.key, .slice z.2.1.1 z.2.1.2.1 z.2.1.2.2, .slice z.2.2.1 z.2.2.2.1 z.2.2.2.2] 35)
        have hgl := goneR_len v (rows.take j)
        rw [List.length_take] at hgl
        have CF := HEE.out.call (HD.out.fr.trans (Fr.of_below bA (fp := fun _ => False)) (fun _ h => h.elim)) (List.mem_of_getElem? hz) (HD.out.out.below bA) (by omega)
        have hobs : ob < wr.heap.size := by have := HEE.out.obB; have := HEE.out.Bw; have := HD.out.fr.size; omega
        have HYG := Lib.hid (HD.out.out.young bA)
        have HZ := Lib.hid hz
        have HBA := Lib.hid bA
        have HKA := Lib.hid kA
        have j0 : (0 : Int) ≤ (j : Int) := by omega
        have j1 : (j : Int) < (n : Int) := by omega
        have i0 : (0 : Int) ≤ (i : Int) := by omega
        have i1 : (i : Int) < (n : Int) := by omega
        obtain ⟨bb, hbb⟩ : ∃ bb, covB v z.1 = bb := ⟨_, rfl⟩
        have hbb2 : outR v (goneR v (rows.take j)) z = if bb = true then goneR v (rows.take j) ++ [z] else goneR v (rows.take j) := by unfold outR; rw [← hbb]
        rw [hbb, hbb2] at CF
        have CF := Lib.hid CF
        have HBB := Lib.hid hbb
        have hcz : (wr.alloc (.cells #[.int .i64 z.1.src, .int .i64 z.1.seq, .string z.1.rc.key, .slice z.2.1.1 z.2.1.2.1 z.2.1.2.2, .slice z.2.2.1 z.2.2.2.1 z.2.2.2.2] 35)).heap.size = wr.heap.size + 1 := by simp
        clear hz e1 e2 e3 e4 up bA kA hbb hbb2
        go_wp2_with fail
        refine CF.out.mono ?_
        rintro e w4 ⟨rfl, o4, F4, st⟩
        have k4 : w4.heap[wr.heap.size]? = _ := (st wr.heap.size (by omega) hobs HYG.out wr.heap.size (Nat.le_refl _) (by omega)).trans HKA.out
        have y0 := row_cell (j := 0) k4 rfl
        have y1 := row_cell (j := 1) k4 rfl
        have y2 := row_cell (j := 2) k4 rfl
        have y3 := row_cell (j := 3) k4 rfl
        have y4 := row_cell (j := 4) k4 rfl
        have F5 : Fr (fun b => b = ob ∨ B ≤ b) wr w4 := (Fr.of_below HBA.out).trans F4 (fun i hi => .inl hi)
        have hgB := HGB.out
        cases bb
        · have HS := Lib.hid (HD.out.no HZ.out HBB.out (by omega) o4 F5 HGB.out hgr)
          obtain ⟨cur, e1, e2, -, -⟩ := (HD.out.cut.keep (F5.block g hgr (by omega))).ex
          have cl : ∀ r, r < 5 → ∃ u, w4.cell? ⟨g, i * 5 + r, none⟩ = some u := fun r hr => ⟨_, by rw [cell_of_row w4 g _ _ _ (0, 0) e1]; exact Array.getElem?_eq_getElem (by omega)⟩
          obtain ⟨u0, z0⟩ := cl 0 (by omega)
          rw [Nat.add_zero] at z0
          obtain ⟨u1, z1⟩ := cl 1 (by omega)
          obtain ⟨u2, z2⟩ := cl 2 (by omega)
          obtain ⟨u3, z3⟩ := cl 3 (by omega)
          obtain ⟨u4, z4⟩ := cl 4 (by omega)
          have fr0 := fun r => frozen_of_row w4 g r _ _ e1
          have g0 := fr0 (i * 5)
          have g1 := fr0 (i * 5 + 1)
          have g2 := fr0 (i * 5 + 2)
          have g3 := fr0 (i * 5 + 3)
          have g4 := fr0 (i * 5 + 4)
          clear o4 F4 st k4 F5 CF x0 x1 x2 x3 x4 e1 cl fr0
          go_wp2
          go_roundw
          case rel => exact ⟨j + 1, i + 1, by go_num, by go_num, by omega, HS⟩
          case measure => simp [intOf]; omega
        · have HS := Lib.hid (HD.out.yes HZ.out HBB.out o4 F5 HGB.out hgr)
          clear o4 F4 st k4 F5 CF x0 x1 x2 x3 x4
          go_wp2
          go_roundw
          case rel => exact ⟨j + 1, i, rfl, by go_num, by omega, HS⟩
          case measure => simp [intOf]; omega
      · obtain rfl : j = n := by omega
        have htn : rows.take j = rows := List.take_of_length_le (by rw [HRL.out]; exact Nat.le_refl _)
        obtain ⟨d1, d2, d3, d4, d5⟩ := HD.out
        rw [htn] at d1 d3 d4
        obtain ⟨cur, e1, e2, -, -⟩ := _root_.id d3.ex
        obtain ⟨own, F⟩ := row_of_cut (i := i) d3 d1 (by omega) HMX.out (vs := zN (j - i)) (by rw [zN_len]; omega) rfl
        have hcl : ∀ ty, (Builtin.clear_ #[22] ty #[.slice (some ⟨g, i * 5, none⟩) (j - i) (c - i)]).run Try.prog wr = .ok (.tuple #[]) (wr.setCells g (i * 5) (zN (j - i))) :=
          fun ty => run_clear_fars wr ty g _ _ _ (by omega) (fun t ht => by rw [cell_of_row wr g _ _ _ (0, 0) e1, Array.getElem?_eq_getElem (by omega)]; rfl) (fun t ht => blk_free e1 _)
        have hgB := HGB.out
        have HE := Lib.hid (show DelTo w g B ob v (some ⟨g, 0, none⟩) c rows (.returned (.slice (some ⟨g, 0, none⟩) i c)) (wr.setCells g (i * 5) (zN (j - i))) from
          ⟨i, rfl, d1.symm, d4.kept (F.kept fun b hb e => by omega), own, (d5.trans F (fun b hb => .inl (.inl hb))).mono (fun b hb => .inl (hb.imp (fun e => ⟨e, fun e2 => by have := HRL.out; rw [e2] at this; simp at this; omega⟩) (fun h => h))), d5.trans F (fun b hb => .inl (.inl hb))⟩)
        have i0 : (0 : Int) ≤ (i : Int) := by omega
        have i1 : (i : Int) ≤ (j : Int) := by omega
        have i2 : (i : Int) ≤ (c : Int) := by omega
        have i3 : (j : Int) ≤ (c : Int) := by omega
        have i4 : ¬ c = i := by omega
        clear d1 d2 d3 d4 d5 e1 own F htn
        go_wp2
        go_ret
        exact HE.out
end Go.Proofs.Ytilagblpamhmkaa
