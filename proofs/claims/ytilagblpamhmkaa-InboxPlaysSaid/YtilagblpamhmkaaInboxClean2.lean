/-
  slices.IndexFunc and DeleteFunc with Clean's function.
-/
import Derived.Test.YtilagblpamhmkaaInboxClean1
namespace Go.Proofs.Ytilagblpamhmkaa
open Go.RowKit
set_option linter.unusedVariables false

def keepR (v : List Int) (rows : List RFa) : List RFa := rows.filter fun y => !covB v y.1
def goneR (v : List Int) (rows : List RFa) : List RFa := rows.filter fun y => covB v y.1
theorem keepR_yes {v : List Int} {rows : List RFa} {k : Nat} {y : RFa} (h : rows[k]? = some y) (hc : covB v y.1 = true) : keepR v (rows.take (k + 1)) = keepR v (rows.take k) ∧ goneR v (rows.take (k + 1)) = goneR v (rows.take k) ++ [y] := by
  unfold keepR goneR
  rw [List.take_add_one, h]
  simp [hc]
theorem keepR_no {v : List Int} {rows : List RFa} {k : Nat} {y : RFa} (h : rows[k]? = some y) (hc : covB v y.1 = false) : keepR v (rows.take (k + 1)) = keepR v (rows.take k) ++ [y] ∧ goneR v (rows.take (k + 1)) = goneR v (rows.take k) := by
  unfold keepR goneR
  rw [List.take_add_one, h]
  simp [hc]
theorem keepR_all {v : List Int} {rows : List RFa} (h : rows.any (fun y => covB v y.1) = false) : keepR v rows = rows ∧ goneR v rows = [] := by
  rw [List.any_eq_false] at h
  unfold keepR goneR
  exact ⟨List.filter_eq_self.2 fun y hy => by simp [h y hy], List.filter_eq_nil_iff.2 fun y hy => h y hy⟩
theorem keepR_len (v : List Int) (rows : List RFa) : (keepR v rows).length ≤ rows.length := List.length_filter_le _ _
/-- What the function finds. -/
structure CEnv (w0 : World) (fp : Nat → Prop) (rows : List RFa) (v : List Int) (g ab ob B : Nat) (Av : Option Addr) (nv cv : Nat) : Prop where
  hab : w0.heap[ab]? = some (.cells #[.slice Av nv cv] 23 (0, 0))
  vec : SlI w0 Av nv v
  nvl : nv ≤ 140737488351232
  vout : ∀ b off, 0 < nv * 1 → Av = some ⟨b, off, none⟩ → b ≠ g ∧ b ≠ ob ∧ b < B
  abn : ab ≠ g ∧ ab ≠ ob ∧ ab < B
  fd : ∀ y ∈ rows, FaD w0 fp y
  fpn : ∀ b, fp b → b ≠ ob ∧ b < B
  gtag : rows ≠ [] → ∃ cs, w0.heap[g]? = some (.cells cs 35 (0, 0))
  obB : ob < B
  Bw : B ≤ w0.heap.size
  obg : ob ≠ g
  gB : g < B
section
variable {w0 W : World} {fp : Nat → Prop} {rows : List RFa} {v : List Int} {g ab ob B : Nat} {Av : Option Addr} {nv cv : Nat}
theorem CEnv.fd_ (h : CEnv w0 fp rows v g ab ob B Av nv cv) (F : Fr (fun b => b = g ∨ b = ob ∨ B ≤ b) w0 W) {y : RFa} (hy : y ∈ rows) : FaD W fp y := by
  obtain ⟨cs, hcs⟩ := h.gtag (by intro e; rw [e] at hy; cases hy)
  refine (h.fd y hy).keep fun b cb t ht hb ho => F.kept (fp' := fun b => b ≠ g ∧ fp b) (fun i hi hh => ?_) b _ ⟨tag_neI ho hcs (dtI ht).2, hb⟩ ho
  rcases hh with e | e | e
  · exact hi.1 e
  · exact (h.fpn i hi.2).1 e
  · have := (h.fpn i hi.2).2; omega
theorem CEnv.call (h : CEnv w0 fp rows v g ab ob B Av nv cv) (F : Fr (fun b => b = g ∨ b = ob ∨ B ≤ b) w0 W) {y : RFa} (hy : y ∈ rows) {R : List RFa} (ho : OutS W B ob R) (hl : (R.length + 1) * 80 ≤ 140737488355328) :
    Calls Try.prog 46 #[.agg #[.int .i64 y.1.src, .int .i64 y.1.seq, .string y.1.rc.key, .slice y.2.1.1 y.2.1.2.1 y.2.1.2.2, .slice y.2.2.1 y.2.2.2.1 y.2.2.2.2], .pointer (some ⟨ab, 0, none⟩), .pointer (some ⟨ob, 0, none⟩)] W fun e w' => e = .returned (.bool (covB v y.1)) ∧ OutS w' B ob (outR v R y) ∧ Fr (fun b => b = ob ∨ B ≤ b) W w' ∧ StayS W ob w' := by
  have hfd := h.fd_ F hy
  have hab : W.heap[ab]? = some (.cells #[.slice Av nv cv] 23 (0, 0)) := (F.block ab (lt_of_block h.hab) (fun hh => by have := h.abn; omega)).trans h.hab
  have hsv : SlI W Av nv v := Sl.keepB h.vec fun b off hn e => F.block b (Sl.blk_lt h.vec hn e) (fun hh => by have := h.vout b off hn e; omega)
  exact clean1_any W v y R B ab ob Av nv cv hab hsv h.nvl hfd.vs.slv (rightF_rec hfd.right).2 ho h.obB (Nat.le_trans h.Bw F.size) hl
end
/-- What IndexFunc leaves. -/
def IdxTo (w : World) (B ob : Nat) (v : List Int) (rows : List RFa) (e : Ending) (w' : World) : Prop :=
  Fr (fun b => b = ob ∨ B ≤ b) w w' ∧ ((e = .returned (.int .i64 (-1)) ∧ rows.any (fun y => covB v y.1) = false ∧ OutS w' B ob []) ∨
    ∃ (k : Nat) (y : RFa), e = .returned (.int .i64 (k : Int)) ∧ rows[k]? = some y ∧ keepR v (rows.take (k + 1)) = rows.take k ∧ goneR v (rows.take (k + 1)) = [y] ∧ OutS w' B ob [y])
set_option maxHeartbeats 4000000 in
theorem index_clean {w : World} {fp : Nat → Prop} {rows : List RFa} {v : List Int} {g ab ob B : Nat} {Av : Option Addr} {nv cv : Nat} (A : Option Addr) (n c : Nat) (hs : Sl w A n 5 (rows.flatMap fV1)) (hAg : ∀ b off, A = some ⟨b, off, none⟩ → b = g) (hn : n * 80 ≤ 140737488355328)
    (hE : CEnv w fp rows v g ab ob B Av nv cv) (ho : OutS w B ob []) :
    Calls Try.prog 38 #[.slice A n c, .func (.func 46) #[] #[.pointer (some ⟨ab, 0, none⟩), .pointer (some ⟨ob, 0, none⟩)]] w (IdxTo w B ob v rows) := by
  have hl := hs.1
  rw [flat_len fV1_len] at hl
  have hrl : rows.length = n := by omega
  have HS := Lib.hid hs
  have HRL := Lib.hid hrl
  have HEE := Lib.hid hE
  have HO := Lib.hid ho
  have HG := Lib.hid hAg
  clear hs hl hrl hE ho hAg
  go_enter Try.func38, Try.ntmps38
  go_wp2
  go_loopw [8] (fun i wr => ∃ k : Nat, i = .int .i64 (k : Int) ∧ k ≤ n ∧ Hid ((rows.take k).any (fun y => covB v y.1) = false) ∧ Hid (OutS wr B ob []) ∧ Hid (Fr (fun b => b = ob ∨ B ≤ b) w wr)) (fun i _ => n - (intOf i).toNat)
  case atStart => exact ⟨0, rfl, Nat.zero_le _, Lib.hid rfl, HO, Fr.refl _ _⟩
  case round =>
    obtain ⟨k, rfl, hk, HA, HOO, HF⟩ := hrel
    by_cases hlt : k < n
    · obtain ⟨y, hy⟩ : ∃ y, rows[k]? = some y := ⟨_, List.getElem?_eq_getElem (by rw [HRL.out]; exact hlt)⟩
      obtain ⟨b, off, rfl, hc⟩ := far_at HS.out hy
      have hm := List.mem_of_getElem? hy
      have hbg : b = g := HG.out b off rfl
      have hbw : b < w.heap.size := World.block_lt_of_cell? w _ (hc 0 _ (by omega) rfl)
      have hbk : wr.heap[b]? = w.heap[b]? := HF.out.block b hbw (fun hh => by
        have h1 := HEE.out.gB
        have h2 := HEE.out.obg
        omega)
      have up : ∀ r u, r < 5 → (fV1 y)[r]? = some u → wr.cell? ⟨b, off + k * 5 + r, none⟩ = some u := fun r u h1 h2 => by rw [World.cell?_of_block (a := ⟨b, off + k * 5 + r, none⟩) hbk]; exact hc r u h1 h2
      have x0 : wr.cell? ⟨b, off + k * 5, none⟩ = some (.int .i64 y.1.src) := up 0 _ (by omega) rfl
      have x1 := up 1 _ (by omega) rfl
      have x2 := up 2 _ (by omega) rfl
      have x3 := up 3 _ (by omega) rfl
      have x4 := up 4 _ (by omega) rfl
      have HY := Lib.hid hy
      have CF := Lib.hid (HEE.out.call (HF.out.mono (fun i hi => .inl (.inr hi))) hm HOO.out (by simp))
      have i0 : (0 : Int) ≤ (k : Int) := by omega
      have i1 : (k : Int) < (n : Int) := by omega
      obtain ⟨bb, hbb⟩ : ∃ bb, covB v y.1 = bb := ⟨_, rfl⟩
      have hbb2 : outR v [] y = if bb = true then [y] else [] := by unfold outR; rw [← hbb]; rfl
      rw [hbb, hbb2] at CF
      have HBB := Lib.hid hbb
      have HNE := Lib.hid hm
      clear hc hy hbb hbb2 hm hbg hbk up hbw
      go_wp2_with fail
      refine CF.out.mono ?_
      rintro e w3 ⟨rfl, o3, f3, -⟩
      have HF3 := Lib.hid (HF.out.trans f3 (fun i hi => .inl hi))
      have HO3 := Lib.hid o3
      clear o3 f3 CF x0 x1 x2 x3 x4
      cases bb
      · have HA3 := Lib.hid (show (rows.take (k + 1)).any (fun y => covB v y.1) = false from by rw [List.take_add_one, HY.out, List.any_append, HA.out]; simp [HBB.out])
        have HO4 := Lib.hid (show OutS w3 B ob [] from HO3.out)
        go_wp2
        go_roundw
        case rel => exact ⟨k + 1, by go_num, by omega, HA3, HO4, HF3⟩
        case measure => simp [intOf]; omega
      · have hka := keepR_all HA.out
        have hkk := keepR_yes HY.out HBB.out
        rw [hka.1, hka.2, List.nil_append] at hkk
        have HE := Lib.hid (show IdxTo w B ob v rows (.returned (.int .i64 (k : Int))) w3 from ⟨HF3.out, .inr ⟨k, y, rfl, HY.out, hkk.1, hkk.2, HO3.out⟩⟩)
        clear hka hkk
        go_wp2
        go_ret
        exact HE.out
    · obtain rfl : k = n := by omega
      have HE := Lib.hid (show IdxTo w B ob v rows (.returned (.int .i64 (-1))) wr from ⟨HF.out, .inl ⟨rfl, by have h := HA.out; rwa [List.take_of_length_le (by rw [HRL.out]; exact Nat.le_refl _)] at h, HOO.out⟩⟩)
      go_wp2
      go_ret
      exact HE.out
/-! ### The row that is turned -/
structure CutI (w : World) (g kc n : Nat) (rows : List RFa) (j : Nat) (ks : List RFa) : Prop where
  ex : ∃ cur : Array Value, w.heap[g]? = some (.cells cur 35 (0, 0)) ∧ cur.size = kc * 5 ∧ (∀ m y r, ks[m]? = some y → r < 5 → cur[m * 5 + r]? = (fV1 y)[r]?) ∧ ∀ m y r, j ≤ m → rows[m]? = some y → r < 5 → cur[m * 5 + r]? = (fV1 y)[r]?
theorem CutI.keep {w w' : World} {g kc n : Nat} {rows : List RFa} {j : Nat} {ks : List RFa} (h : CutI w g kc n rows j ks) (hk : w'.heap[g]? = w.heap[g]?) : CutI w' g kc n rows j ks := by
  obtain ⟨cur, h1, h2⟩ := h.ex
  exact ⟨cur, hk.trans h1, h2⟩
theorem CutI.skip {w : World} {g kc n : Nat} {rows : List RFa} {j : Nat} {ks : List RFa} (h : CutI w g kc n rows j ks) : CutI w g kc n rows (j + 1) ks := by
  obtain ⟨cur, h1, h2, h3, h4⟩ := h.ex
  exact ⟨cur, h1, h2, h3, fun m y r hm => h4 m y r (by omega)⟩
def set5o (w : World) (g o : Nat) (v0 v1 v2 v3 v4 : Value) : World := ((((w.setCell ⟨g, o, none⟩ v0).setCell ⟨g, o + 1, none⟩ v1).setCell ⟨g, o + 2, none⟩ v2).setCell ⟨g, o + 3, none⟩ v3).setCell ⟨g, o + 4, none⟩ v4
theorem set5o_fr {w : World} {g o : Nat} {v0 v1 v2 v3 v4 : Value} : Fr (fun i => i = g) w (set5o w g o v0 v1 v2 v3 v4) :=
  ((((Fr.set w ⟨g, o, none⟩ _).trans (Fr.set _ ⟨g, o + 1, none⟩ _) (fun _ h => .inl h)).trans (Fr.set _ ⟨g, o + 2, none⟩ _) (fun _ h => .inl h)).trans (Fr.set _ ⟨g, o + 3, none⟩ _) (fun _ h => .inl h)).trans (Fr.set _ ⟨g, o + 4, none⟩ _) (fun _ h => .inl h)
theorem CutI.put {w : World} {g kc n : Nat} {rows : List RFa} {j i : Nat} {ks : List RFa} (h : CutI w g kc n rows j ks) {y : RFa} (hi : ks.length = i) (hij : i < j) (hjk : j < kc) :
    CutI (set5o w g (i * 5) (.int .i64 y.1.src) (.int .i64 y.1.seq) (.string y.1.rc.key) (.slice y.2.1.1 y.2.1.2.1 y.2.1.2.2) (.slice y.2.2.1 y.2.2.2.1 y.2.2.2.2)) g kc n rows (j + 1) (ks ++ [y]) := by
  obtain ⟨cur, h1, h2, h3, h4⟩ := h.ex
  have hh := heap_setCell_same _ g (i * 5 + 4) _ _ (.slice y.2.2.1 y.2.2.2.1 y.2.2.2.2) (heap_setCell_same _ g (i * 5 + 3) _ _ (.slice y.2.1.1 y.2.1.2.1 y.2.1.2.2) (heap_setCell_same _ g (i * 5 + 2) _ _ (.string y.1.rc.key) (heap_setCell_same _ g (i * 5 + 1) _ _ (.int .i64 y.1.seq) (heap_setCell_same w g (i * 5) _ _ (.int .i64 y.1.src) h1))))
  refine ⟨_, hh, by simpa using h2, fun m z r hm hr => ?_, fun m z r hm hz hr => ?_⟩
  · by_cases hmi : m = i
    · subst hmi
      rw [List.getElem?_append_right (by omega), hi, Nat.sub_self] at hm
      simp only [List.getElem?_cons_zero, Option.some.injEq] at hm
      subst hm
      obtain rfl | rfl | rfl | rfl | rfl : r = 0 ∨ r = 1 ∨ r = 2 ∨ r = 3 ∨ r = 4 := by omega
      all_goals (simp only [Array.getElem?_setIfInBounds, Array.size_setIfInBounds, Nat.add_zero]; (repeat rw [if_neg (by omega)]); rw [if_pos trivial, if_pos (by omega)]; try rfl)
    · have hml : m < i := by
        have h5 := (List.getElem?_eq_some_iff.1 hm).1
        rw [List.length_append, List.length_singleton] at h5
        omega
      rw [List.getElem?_append_left (by omega)] at hm
      have := h3 m z r hm hr
      simp only [Array.getElem?_setIfInBounds, Array.size_setIfInBounds]
      repeat rw [if_neg (by omega)]
      exact this
  · have := h4 m z r (by omega) hz hr
    simp only [Array.getElem?_setIfInBounds, Array.size_setIfInBounds]
    repeat rw [if_neg (by omega)]
    exact this
end Go.Proofs.Ytilagblpamhmkaa
