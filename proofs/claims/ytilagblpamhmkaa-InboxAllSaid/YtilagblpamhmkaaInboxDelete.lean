/-
  slices.Delete of one far write.
-/
import Derived.Test.YtilagblpamhmkaaInboxIndex
import Derived.Deep.RegionLaw
import Derived.Laws.IdiomCopy
import Derived.Lib.SliceRun
namespace Go.Proofs.Ytilagblpamhmkaa
open Go.RowKit
set_option linter.unusedVariables false

theorem blk_cell {w : World} {g j : Nat} {t : TypeId} {cs : Array Value} {v : Value} (h : w.heap[g]? = some (.cells cs t (0, 0))) (hj : cs[j]? = some v) : w.cell? ⟨g, j, none⟩ = some v := by
  rw [cell_of_row w g j cs t (0, 0) h]; exact hj
theorem blk_free {w : World} {g : Nat} {t : TypeId} {cs : Array Value} (h : w.heap[g]? = some (.cells cs t (0, 0))) (j : Nat) : w.frozen? ⟨g, j, none⟩ = false := frozen_of_row w g j cs t h
def putL (cs : Array Value) : Nat → List Value → Array Value
  | _, [] => cs
  | o, v :: r => putL (cs.setIfInBounds o v) (o + 1) r
theorem putL_size : ∀ (vs : List Value) (o : Nat) (cs : Array Value), (putL cs o vs).size = cs.size
  | [], _, _ => rfl
  | v :: r, o, cs => by rw [putL, putL_size r (o + 1), Array.size_setIfInBounds]
theorem putL_get : ∀ (vs : List Value) (o : Nat) (cs : Array Value) (j : Nat), o + vs.length ≤ cs.size → (putL cs o vs)[j]? = if o ≤ j ∧ j < o + vs.length then vs[j - o]? else cs[j]?
  | [], o, cs, j, _ => by rw [if_neg (by simp <;> omega)]; rfl
  | v :: r, o, cs, j, h => by
    simp only [List.length_cons] at h
    rw [putL, putL_get r (o + 1) _ j (by rw [Array.size_setIfInBounds]; omega)]
    simp only [List.length_cons]
    by_cases h1 : o + 1 ≤ j ∧ j < o + 1 + r.length
    · rw [if_pos h1, if_pos (by omega), show j - o = (j - (o + 1)) + 1 by omega, List.getElem?_cons_succ]
    · rw [if_neg h1]
      by_cases h2 : j = o
      · subst h2
        rw [if_pos (by omega), Nat.sub_self, Array.getElem?_setIfInBounds_self_of_lt (by omega)]
        rfl
      · rw [if_neg (by omega), Array.getElem?_setIfInBounds_ne (by omega)]
theorem setCells_heap {g : Nat} {t : TypeId} : ∀ (vs : List Value) (o : Nat) (w : World) (cs : Array Value), w.heap[g]? = some (.cells cs t (0, 0)) → (w.setCells g o vs).heap[g]? = some (.cells (putL cs o vs) t (0, 0))
  | [], _, _, _, h => h
  | v :: r, o, w, cs, h => setCells_heap r (o + 1) _ _ (heap_setCell_same w g o cs t v h)
theorem setCells_fr {g : Nat} : ∀ (vs : List Value) (o : Nat) (w : World), Fr (fun i => i = g) w (w.setCells g o vs)
  | [], _, w => Fr.refl _ _
  | v :: r, o, w => (Fr.set w ⟨g, o, none⟩ v).trans (setCells_fr r (o + 1) _) (fun i hi => .inl hi)

theorem Try.infoFarD : (Try.prog.info? 35).map (fun i => (i.zero, i.size, i.bytes)) = some (some (.agg #[.int .i64 0, .int .i64 0, .string ⟨#[]⟩, .slice none 0 0, .slice none 0 0]), 5, 80) := by kernel_rfl
theorem Try.zeroFarV (w : World) : (zeroValue 35).run Try.prog w = .ok (.agg #[.int .i64 0, .int .i64 0, .string ⟨#[]⟩, .slice none 0 0, .slice none 0 0]) w := by kernel_rfl
def zs : List Value := [.int .i64 0, .int .i64 0, .string ⟨#[]⟩, .slice none 0 0, .slice none 0 0]
theorem run_clear_far (w : World) (ty : TypeId) (g o c : Nat) (hc : ∀ j, j < 5 → (w.cell? ⟨g, o + j, none⟩).isSome = true) (hf : ∀ j, j < 5 → w.frozen? ⟨g, o + j, none⟩ = false) :
    (Builtin.clear_ #[22] ty #[.slice (some ⟨g, o, none⟩) 1 c]).run Try.prog w = .ok (.tuple #[]) (w.setCells g o zs) := by
  have hzc : (Builtin.zeroCells (Value.agg #[.int .i64 0, .int .i64 0, .string ⟨#[]⟩, .slice none 0 0, .slice none 0 0]).cells 1).toList = zs := by kernel_rfl
  have hst := run_storeCells_cells (P := Try.prog) g o zs 0 w (by simpa [zs] using hc) (by simpa [zs] using hf) (by intro v hv; simp [zs] at hv; rcases hv with rfl | rfl | rfl <;> rfl)
  simp only [Nat.add_zero] at hst
  simp [Builtin.clear_, run_underlying Try.underlying22, hzc, hst]
/-- What is left of a row of n packets without the i-th. -/
def cutAt (xs : List Value) (i : Nat) : List Value := xs.take (i * 5) ++ xs.drop ((i + 1) * 5)
theorem delete_list (cur : Array Value) (n i kc : Nat) (hcur : cur.size = kc * 5) (hi : i < n) (hn : n ≤ kc) :
    (putL (putL cur (0 + i * 5) ((cur.toList.take (n * 5)).drop ((i + 1) * 5))) ((n - 1) * 5) zs).toList.take ((n - 1) * 5) = cutAt (cur.toList.take (n * 5)) i := by
  have hl : ((cur.toList.take (n * 5)).drop ((i + 1) * 5)).length = (n - (i + 1)) * 5 := by simp; omega
  have hz : zs.length = 5 := rfl
  apply List.ext_getElem?
  intro j
  rw [List.getElem?_take]
  unfold cutAt
  by_cases hj : j < (n - 1) * 5
  · rw [if_pos hj, Array.getElem?_toList, putL_get _ _ _ _ (by rw [putL_size]; omega), if_neg (by omega), putL_get _ _ _ _ (by omega)]
    by_cases h2 : 0 + i * 5 ≤ j
    · rw [if_pos (by omega), List.getElem?_append_right (by simp; omega)]
      congr 1
      simp
      omega
    · rw [if_neg (by omega), List.getElem?_append_left (by simp; omega), List.getElem?_take, if_pos (by omega), List.getElem?_take, if_pos (by omega), Array.getElem?_toList]
  · rw [if_neg hj, List.getElem?_eq_none (by simp; omega)]
set_option maxHeartbeats 2000000 in
theorem delete_any (g kc n i : Nat) (cur : Array Value) (w : World) (hg : w.heap[g]? = some (.cells cur 35 (0, 0))) (hcur : cur.size = kc * 5) (hi : i < n) (hn : n ≤ kc) (hkc : kc ≤ maxLen) (h1 : ∀ u ∈ cur.toList.take (n * 5), u.oneCell' = true) :
    Calls Try.prog 39 #[.slice (some ⟨g, 0, none⟩) n kc, .int .i64 (i : Int), .int .i64 ((i : Int) + 1)] w fun e w' => e = .returned (.slice (some ⟨g, 0, none⟩) (n - 1) kc) ∧
      (∃ cur', w'.heap[g]? = some (.cells cur' 35 (0, 0)) ∧ cur'.size = cur.size ∧ cur'.toList.take ((n - 1) * 5) = cutAt (cur.toList.take (n * 5)) i) ∧ Fr (fun b => b = g) w w' := by
  obtain ⟨i0, hi0, hz0, hz1, hz2⟩ := info_parts Try.infoFarD
  unfold maxLen at hkc
  obtain ⟨news, hnews⟩ : ∃ news, news = (cur.toList.take (n * 5)).drop ((i + 1) * 5) := ⟨_, rfl⟩
  have hlen : news.length = (n - (i + 1)) * 5 := by rw [hnews]; simp; omega
  have hcell : ∀ j, j < cur.size → w.cell? ⟨g, j, none⟩ = cur[j]? := fun j _ => cell_of_row w g j cur _ (0, 0) hg
  obtain ⟨A, hA, hsrc⟩ : ∃ A : Addr, (if kc = i + 1 then some (⟨g, 0, none⟩ : Addr) else some ⟨g, (i + 1) * 5, none⟩) = some A ∧ Hid (∀ t u, news[t]? = some u → w.drew.cell? (A.add t) = some u) := by
    by_cases h : kc = i + 1
    · refine ⟨⟨g, 0, none⟩, by simp [h], fun t u hu => ?_⟩
      have h0 : news.length = 0 := by rw [hlen]; have : n = i + 1 := by omega
                                      subst this; simp
      rw [List.length_eq_zero_iff.1 h0] at hu
      simp at hu
    · refine ⟨⟨g, (i + 1) * 5, none⟩, by simp [h], fun t u hu => ?_⟩
      have ht : t < (n - (i + 1)) * 5 := by
        have := (List.getElem?_eq_some_iff.1 hu).1
        rwa [hlen] at this
      rw [hnews, List.getElem?_drop, List.getElem?_take, if_pos (by omega), Array.getElem?_toList] at hu
      rw [Addr.add_lit]
      exact (hcell ((i + 1) * 5 + t) (by omega)).trans hu
  have s1 : Hid (news.length = (n - (i + 1)) * 5) := hlen
  have s2 : Hid (∀ u ∈ news, u.oneCell' = true) := fun u hu => h1 u (List.mem_of_mem_drop (hnews ▸ hu))
  have s3 : Hid (∀ t, t < news.length → (w.drew.cell? ⟨g, 0 + i * 5 + t, none⟩).isSome = true ∧ w.drew.frozen? ⟨g, 0 + i * 5 + t, none⟩ = false) := by
    intro t ht
    rw [hlen] at ht
    refine ⟨?_, blk_free hg _⟩
    show (w.cell? _).isSome = true
    rw [hcell _ (by omega), Array.getElem?_eq_getElem (by omega)]
    rfl
  obtain ⟨W1, hW1⟩ : ∃ W1, W1 = w.drew.setCells g (0 + i * 5) news := ⟨_, rfl⟩
  have hg1 : W1.heap[g]? = some (.cells (putL cur (0 + i * 5) news) 35 (0, 0)) := by rw [hW1]; exact setCells_heap news _ _ _ hg
  have hcl : ∀ ty, (Builtin.clear_ #[22] ty #[.slice (some ⟨g, (n - 1) * 5, none⟩) 1 (kc - (n - 1))]).run Try.prog W1 = .ok (.tuple #[]) (W1.setCells g ((n - 1) * 5) zs) :=
    fun ty => run_clear_far W1 ty g _ _ (fun t ht => by rw [cell_of_row W1 g _ _ _ (0, 0) hg1, Array.getElem?_eq_getElem (by rw [putL_size]; omega)]; rfl) (fun t ht => blk_free hg1 _)
  have hW : Hid (W1 = w.drew.setCells g (0 + i * 5) news) := hW1
  have HG1 := Lib.hid hg1
  have HN := Lib.hid (And.intro hnews hlen)
  have q : ((i : Int) == (i : Int) + 1) = false := by simp; omega
  have i0' : (0 : Int) ≤ (i : Int) := by omega
  have i0'' : (0 : Int) ≤ (i : Int) + 1 := by omega
  have i1 : (i : Int) ≤ (i : Int) + 1 := by omega
  have i2 : (i : Int) + 1 ≤ (n : Int) := by omega
  have i3 : (n : Int) ≤ (kc : Int) := by omega
  have i4 : (i : Int) ≤ (kc : Int) := by omega
  have i5 : (i : Int) + 1 ≤ (kc : Int) := by omega
  have i6 : ((i : Int) + 1).toNat = i + 1 := by omega
  clear hW1 hg1 hnews hlen hcell h1
  go_enter Try.func39, Try.ntmps39
  go_wp2_with fail
  go_region_law (refine step_append_room rfl (.tmp 22) (.tmp 25) 22 rfl 35 i0 5 Try.underlying22 hi0 hz1 g 0 i kc (by simp [Act.eval, Act.put]) A (n - (i + 1)) (kc - (i + 1)) news (by simp [Act.eval, Act.put]) s1.out hsrc.out s2.out (by omega) s3.out ?_; rw [← hW.out])
  have e1 : i + (n - (i + 1)) = n - 1 := by omega
  rw [e1]
  have i7 : (0 : Int) ≤ ((n - 1 : Nat) : Int) := by omega
  have i8 : ((n - 1 : Nat) : Int) ≤ (n : Int) := by omega
  have i9 : n - (n - 1) = 1 := by omega
  go_wp2
  go_ret
  have hW' : W1 = w.drew.setCells g (0 + i * 5) news := hW.out
  refine ⟨rfl, ⟨_, setCells_heap zs _ _ _ HG1.out, by rw [putL_size, putL_size], ?_⟩, ?_⟩
  · have := HN.out.2
    rw [HN.out.1]
    exact delete_list cur n i kc hcur hi hn
  · rw [hW']
    exact (((Fr.refl (fun b => b = g) w).drew).trans (setCells_fr news _ _) (fun i hi => .inl hi)).trans (setCells_fr zs _ _) (fun i hi => .inl hi)
end Go.Proofs.Ytilagblpamhmkaa
