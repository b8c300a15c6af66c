/-
  A slice of slices of bytes, opened.
-/
import Derived.Test.YtoeeiancbiaajaaBulk
import Derived.Test.YtoeeiancbiaajaaBytesMem
import Derived.Deep.Slices
namespace Go.Proofs.Ytoeeiancbiaajaa
open Go.ChangeShapes Go.WideShapes Go.ChangeAt Go.RowKit
open Go.Deep (open_slice)

theorem bulk_cap1 {H : Type} {d : DataW H} {cap : Nat} (h : CapOf d cap) : cap + 1 ≤ Rows.uptoBulk d := by
  rcases h with rfl | ⟨elems, spare, rfl, rfl⟩
  · have := bulk_one d; omega
  · have h1 := bulk_len elems
    have h2 := bulk_len spare
    simp only [Rows.uptoBulk]
    omega
theorem bulk_sum {H : Type} {D : Nat → DataW H} {f : Nat → Nat} : ∀ (L : List Nat), (∀ i, i ∈ L → f i ≤ Rows.uptoBulk (D i)) → (L.map f).sum ≤ Rows.uptoBulkAll (L.map D)
  | [], _ => by simp [Rows.uptoBulkAll]
  | i :: r, h => by
    have h1 := h i (by simp)
    have h2 := bulk_sum r (fun j hj => h j (by simp [hj]))
    simp only [List.map_cons, List.sum_cons, Rows.uptoBulkAll]
    omega
section
variable {H : Type} {enc : TypeId × Value → H} {P : Program} {w : World} {base : Nat} {t e u : TypeId} {v : Value} {d : DataW H} {p : List MemPlace}

theorem choose_under {α : Type} {p : Nat → α → Prop} {n : Nat} (h : ∀ i, i < n → ∃ x, p i x) (x0 : α) : ∃ f : Nat → α, ∀ i, i < n → p i (f i) :=
  ⟨fun i => open Classical in if h' : ∃ x, p i x then Classical.choose h' else x0, fun i hi => by
    have := h i hi
    simp only [dif_pos this]
    exact Classical.choose_spec this⟩

/-- What was read of a cell as a slice of bytes. -/
theorem open_cell_bytes {fuel : Nat} {cs : List Value} {x : DataW H × List MemPlace} (ht : P.underlying t = some (.slice e)) (he : P.underlying e = some (.int .u8)) (hC : P.cellsOf e = 1)
    (hf : DataW.trod enc P w 0 (fun _ => true) true fuel t cs = some x) : ∃ A len cap l, cs = [.slice A len cap] ∧ SlB w A len l ∧ len ≤ cap ∧ CapOf x.1 cap := by
  rcases open_ints ht he hC hf with ⟨rfl, rfl⟩ | ⟨a, len, cap, zs, rfl, _, hl, hm, hz, rfl, hcell, hwz⟩
  · exact ⟨none, 0, 0, [], rfl, Sl.nil _ _ _, Nat.le_refl _, .inl rfl⟩
  · simp only [if_true] at hz
    refine ⟨_, len, cap, (zs.take len).map fun z => UInt8.ofNat z.toNat, rfl, ?_, hl, .inr ⟨_, _, rfl, by simp [lits]; omega⟩⟩
    have e1 : bsV ((zs.take len).map fun z => UInt8.ofNat z.toNat) = (zs.take len).map (Value.int .u8) := by
      simp only [bsV, List.map_map]
      refine List.map_congr_left fun z hz => ?_
      have hb := bounds_u8 (hwz z (List.mem_of_mem_take hz))
      simp only [Function.comp, bV, UInt8.toNat_ofNat']
      congr 1
      omega
    unfold SlB
    rw [e1]
    refine ⟨by simp; omega, fun hn => ?_⟩
    obtain ⟨b, off, spot⟩ := a
    have hspot : spot = none := by simpa [Addr.add] using World.cell?_spot (hcell 0 (by omega))
    subst hspot
    refine ⟨b, off, rfl, fun j u hu => ?_⟩
    simp only [List.getElem?_map, List.getElem?_take, Option.map_eq_some_iff] at hu
    obtain ⟨z, hz1, rfl⟩ := hu
    split at hz1
    · have hj : j < zs.length := (List.getElem?_eq_some_iff.1 hz1).1
      rw [← add_plain', hcell j hj]
      simp [List.getD, hz1]
    · cases hz1

theorem open_bytess (ht : P.underlying t = some (.slice e)) (he : P.underlying e = some (.slice u)) (hu : P.underlying u = some (.int .u8)) (hC : P.cellsOf e = 1) (hCu : P.cellsOf u = 1)
    (hv : Value.okWide P w .any base t v) (h : DataW.Trod enc P w 0 (fun _ => true) true t v d p) {K : Nat} (hK : Rows.uptoBulk d ≤ K) (hK' : K ≤ 140737488351232) :
    ∃ A len cap ls, v = .slice A len cap ∧ SlBB w A len ls ∧ len ≤ cap ∧ cap ≤ maxLen ∧ CapOf d cap ∧ (ls.map fun x => x.length + 1).sum ≤ K := by
  obtain ⟨a0, len, cap, rfl⟩ := okWide_slice ht hv
  obtain ⟨fuel, hf⟩ := h
  rcases open_slice ht hf with ⟨hcs, _⟩ | ⟨a, len', cap', m, n, D, Pl, hcs, _, hl, hm, hmm, hx, hi⟩
  · simp [Value.cells] at hcs
    obtain ⟨rfl, rfl, rfl⟩ := hcs
    exact ⟨none, 0, 0, [], rfl, SlBB.nil _ _, Nat.le_refl _, by unfold maxLen; omega, .inl rfl, by simp⟩
  · simp [Value.cells] at hcs
    obtain ⟨rfl, rfl, rfl⟩ := hcs
    simp only [if_true] at hmm
    subst hmm
    simp only [Prod.mk.injEq] at hx
    obtain ⟨rfl, _⟩ := hx
    have hd : Rows.uptoBulkAll ((List.range len).map D) ≤ K := by
      simp only [Rows.uptoBulk] at hK
      omega
    have key : ∀ i, i < len → ∃ l : List UInt8, l.length + 1 ≤ Rows.uptoBulk (D i) ∧ ∃ Ak nk ck, w.cell? (a.add i) = some (.slice Ak nk ck) ∧ SlB w Ak nk l ∧ nk ≤ ck := by
      intro i hil
      obtain ⟨cs', hc, ht'⟩ := hi i (by omega)
      rw [hC, Nat.mul_one] at hc
      obtain ⟨Ak, nk, ck, l, rfl, hs, hle, hcp⟩ := open_cell_bytes he hu hCu ht'
      have h1 := bulk_cap1 hcp
      have h2 := hs.len
      exact ⟨l, by simp only at h1; omega, Ak, nk, ck, cell_of_cells?_one hc, hs, hle⟩
    obtain ⟨X, hX⟩ := choose_under key []
    have hsum : (((List.range len).map X).map fun x => x.length + 1).sum ≤ K := by
      rw [List.map_map]
      exact Nat.le_trans (bulk_sum (D := D) (f := (fun x : List UInt8 => x.length + 1) ∘ X) _ (fun i hi => (hX i (List.mem_range.1 hi)).1)) hd
    refine ⟨_, len, _, (List.range len).map X, rfl, ⟨by simp, fun hn => ?_⟩, hl, hm, .inr ⟨_, _, rfl, by simp; omega⟩, hsum⟩
    obtain ⟨b, off, spot⟩ := a
    have hspot : spot = none := by
      obtain ⟨_, _, _, _, h0, _⟩ := hX 0 hn
      simpa [Addr.add] using World.cell?_spot h0
    subst hspot
    refine ⟨b, off, rfl, fun j l hl => ?_⟩
    obtain ⟨hj, rfl⟩ : j < len ∧ X j = l := by
      rcases Nat.lt_or_ge j len with h1 | h1
      · exact ⟨h1, by simpa [h1] using hl⟩
      · rw [List.getElem?_eq_none (by simpa using h1)] at hl; cases hl
    obtain ⟨h1, Ak, nk, ck, h2, h3, h4⟩ := hX j hj
    have h5 : Rows.uptoBulk (D j) ≤ Rows.uptoBulkAll ((List.range len).map D) := by
      have : ∀ L : List Nat, j ∈ L → Rows.uptoBulk (D j) ≤ Rows.uptoBulkAll (L.map D) := by
        intro L
        induction L with
        | nil => simp
        | cons i r ih =>
          intro hm
          simp only [List.map_cons, Rows.uptoBulkAll]
          rcases List.mem_cons.1 hm with rfl | hm
          · omega
          · have := ih hm; omega
      exact this _ (List.mem_range.2 hj)
    have h6 := h3.len
    exact ⟨Ak, nk, ck, by rw [← add_plain']; exact h2, h3, h4, by omega⟩
end
end Go.Proofs.Ytoeeiancbiaajaa
