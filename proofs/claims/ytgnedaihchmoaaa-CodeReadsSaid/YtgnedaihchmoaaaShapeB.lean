/-
  Arguments of any shape under the bound of an '..UptoSaid' row: what is read is of no greater bulk. No program is looked at here.
-/
import Derived.Test.YtgnedaihchmoaaaMC
import Derived.Test.YtgnedaihchmoaaaBulk
namespace Go.Proofs.Ytgnedaihchmoaaa
open Go.ChangeShapes Go.WideShapes Go.ChangeAt Go.RowKit Go.Deep
set_option linter.unusedVariables false

/-- How much is read. -/
def shB : (s : Sh) → s.T → Nat
  | .int _, _ => 1
  | .u8, _ => 1
  | .bool, _ => 1
  | .str, d => d.size + 1
  | .sl _ s, d => (d.map (shB s)).sum + 1
  | .pair a b, d => shB a d.1 + shB b d.2
section
variable {H : Type} {enc : TypeId × Value → H} {P : Program} {w : World}
theorem bulkAll_append : ∀ (a b : List (DataW H)), Rows.uptoBulkAll (a ++ b) = Rows.uptoBulkAll a + Rows.uptoBulkAll b
  | [], b => by simp [Rows.uptoBulkAll]
  | x :: a, b => by simp only [List.cons_append, Rows.uptoBulkAll, bulkAll_append a b]; omega
theorem sum_bulk {α : Type} {f : α → Nat} (D : Nat → DataW H) (l : List α) : ∀ (len : Nat), l.length = len → (∀ i x, l[i]? = some x → f x ≤ Rows.uptoBulk (D i)) → (l.map f).sum ≤ Rows.uptoBulkAll ((List.range len).map D) := by
  have key : ∀ k, k ≤ l.length → (∀ i x, l[i]? = some x → f x ≤ Rows.uptoBulk (D i)) → ((l.take k).map f).sum ≤ Rows.uptoBulkAll ((List.range k).map D) := by
    intro k
    induction k with
    | zero => intro _ _; simp
    | succ k ih =>
      intro hk h
      have h1 := ih (by omega) h
      have hx : l[k]? = some (l[k]'(by omega)) := List.getElem?_eq_getElem _
      have h2 := h k _ hx
      rw [List.take_add_one, hx, List.map_append, List.sum_append, List.range_succ, List.map_append, bulkAll_append]
      simp only [Option.toList_some, List.map_cons, List.map_nil, List.sum_cons, List.sum_nil, Rows.uptoBulkAll]
      omega
  intro len hl h
  have := key len (by omega) h
  rwa [List.take_of_length_le (by omega)] at this
/-- What a shape's reader gives of a struct's fields from 'off' on. -/
theorem open_fieldsB {n : Nat} {f : TypeId → Sh → Bool} {cs : List Value}
    (hf : ∀ (t : TypeId) (s : Sh) (xs : List Value) (y : DataW H × List MemPlace), f t s = true → DataW.trod enc P w 0 (fun _ => true) true n t xs = some y → (∀ m ∈ y.1.weights P t, m ≤ 140737488351232) → ∃ d : s.T, Rd w s xs d ∧ shB s d ≤ Rows.uptoBulk y.1) :
    ∀ (fs : List Field) (off : Nat) (s : Sh) (ys : List (DataW H × List MemPlace)), fitF P f fs off s = true → off + s.size = cs.length →
      (∀ (i : Nat) (x : Field), fs[i]? = some x → DataW.trod enc P w 0 (fun _ => true) true n x.type ((cs.drop x.offset).take (P.cellsOf x.type)) = ys[i]?) → ys.length = fs.length →
      (∀ m ∈ DataW.weightsEach P (fs.map (·.type)) (ys.map (·.1)), m ≤ 140737488351232) → ∃ d : s.T, Rd w s (cs.drop off) d ∧ shB s d ≤ Rows.uptoBulkAll (ys.map (·.1))
  | [], off, s, ys, hfit, _, _, _, _ => by simp [fitF] at hfit
  | [x], off, s, ys, hfit, hlen, hy, hyl, hw => by
    simp only [fitF, Bool.and_eq_true, beq_iff_eq] at hfit
    obtain ⟨h1, h2, h3⟩ := hfit
    match ys, hyl with
    | [y], _ =>
      have g := hy 0 x rfl
      rw [h1, h2, List.take_of_length_le (by rw [List.length_drop]; omega)] at g
      obtain ⟨d, hd, hb⟩ := hf _ _ _ y h3 g (fun m hm => hw m (by simpa [DataW.weightsEach] using hm))
      exact ⟨d, hd, by simp only [List.map_cons, List.map_nil, Rows.uptoBulkAll]; omega⟩
  | x :: z :: r, off, .pair a b, ys, hfit, hlen, hy, hyl, hw => by
    simp only [fitF, Bool.and_eq_true, beq_iff_eq] at hfit
    obtain ⟨h1, h2, h3, h4⟩ := hfit
    match ys, hyl with
    | y :: ys', hyl' =>
      have g := hy 0 x rfl
      rw [h1, h2] at g
      obtain ⟨d1, hd1, hb1⟩ := hf _ _ _ y h3 g (fun m hm => hw m (by simp only [List.map_cons, DataW.weightsEach, List.mem_append]; exact .inl hm))
      obtain ⟨d2, hd2, hb2⟩ := open_fieldsB hf (z :: r) (off + a.size) b ys' (by simpa only [fitF, Bool.and_eq_true, beq_iff_eq] using h4) (by rw [← hlen]; simp only [Sh.size]; omega) (fun i x' hx' => hy (i + 1) x' hx') (by simpa using hyl')
        (fun m hm => hw m (by simp only [List.map_cons, DataW.weightsEach, List.mem_append] at hm ⊢; exact .inr hm))
      refine ⟨(d1, d2), ⟨(cs.drop off).take a.size, cs.drop (off + a.size), ?_, hd1, hd2⟩, by simp only [List.map_cons, Rows.uptoBulkAll]; show shB a d1 + shB b d2 ≤ _; omega⟩
      rw [← List.drop_drop, List.take_append_drop]
  | x :: z :: r, off, .int _, ys, hfit, _, _, _, _ => by simp [fitF] at hfit
  | x :: z :: r, off, .u8, ys, hfit, _, _, _, _ => by simp [fitF] at hfit
  | x :: z :: r, off, .bool, ys, hfit, _, _, _, _ => by simp [fitF] at hfit
  | x :: z :: r, off, .str, ys, hfit, _, _, _, _ => by simp [fitF] at hfit
  | x :: z :: r, off, .sl _ _, ys, hfit, _, _, _, _ => by simp [fitF] at hfit
/-- What a shape's reader gives of an array's elements from the k-th on. -/
theorem open_elemsB {n k : Nat} {e : TypeId} {f : Sh → Bool} {cs : List Value}
    (hf : ∀ (s : Sh) (xs : List Value) (y : DataW H × List MemPlace), f s = true → DataW.trod enc P w 0 (fun _ => true) true n e xs = some y → (∀ m ∈ y.1.weights P e, m ≤ 140737488351232) → ∃ d : s.T, Rd w s xs d ∧ shB s d ≤ Rows.uptoBulk y.1) :
    ∀ (r i : Nat) (s : Sh) (ys : List (DataW H × List MemPlace)), fitA f k r s = true → i * k + s.size = cs.length →
      (∀ j, j < r → DataW.trod enc P w 0 (fun _ => true) true n e ((cs.drop ((i + j) * k)).take k) = ys[j]?) → ys.length = r →
      (∀ m ∈ DataW.weightsAll P e (ys.map (·.1)), m ≤ 140737488351232) → ∃ d : s.T, Rd w s (cs.drop (i * k)) d ∧ shB s d ≤ Rows.uptoBulkAll (ys.map (·.1))
  | 0, i, s, ys, hfit, _, _, _, _ => by simp [fitA] at hfit
  | 1, i, s, ys, hfit, hlen, hy, hyl, hw => by
    simp only [fitA, Bool.and_eq_true, beq_iff_eq] at hfit
    obtain ⟨h2, h3⟩ := hfit
    match ys, hyl with
    | [y], _ =>
      have g := hy 0 (by omega)
      rw [Nat.add_zero, List.take_of_length_le (by rw [List.length_drop]; omega)] at g
      obtain ⟨d, hd, hb⟩ := hf _ _ y h3 g (fun m hm => hw m (by simpa [DataW.weightsAll] using hm))
      exact ⟨d, hd, by simp only [List.map_cons, List.map_nil, Rows.uptoBulkAll]; omega⟩
  | r + 2, i, .pair a b, ys, hfit, hlen, hy, hyl, hw => by
    simp only [fitA, Bool.and_eq_true, beq_iff_eq] at hfit
    obtain ⟨h2, h3, h4⟩ := hfit
    match ys, hyl with
    | y :: ys', hyl' =>
      have g := hy 0 (by omega)
      rw [Nat.add_zero] at g
      have e1 : i * k + a.size = (i + 1) * k := by rw [h2, Nat.add_mul, Nat.one_mul]
      obtain ⟨d1, hd1, hb1⟩ := hf _ _ y h3 g (fun m hm => hw m (by simp only [List.map_cons, DataW.weightsAll, List.mem_append]; exact .inl hm))
      obtain ⟨d2, hd2, hb2⟩ := open_elemsB hf (r + 1) (i + 1) b ys' h4 (by rw [← hlen, ← e1]; simp only [Sh.size]; omega)
        (fun j hj => by have := hy (j + 1) (by omega); rwa [show i + (j + 1) = i + 1 + j from by omega] at this) (by simpa using hyl') (fun m hm => hw m (by simp only [List.map_cons, DataW.weightsAll, List.mem_append]; exact .inr hm))
      refine ⟨(d1, d2), ⟨(cs.drop (i * k)).take k, cs.drop ((i + 1) * k), ?_, hd1, hd2⟩, by simp only [List.map_cons, Rows.uptoBulkAll]; show shB a d1 + shB b d2 ≤ _; omega⟩
      rw [← e1, h2, ← List.drop_drop, List.take_append_drop]
  | r + 2, i, .int _, ys, hfit, _, _, _, _ => by simp [fitA] at hfit
  | r + 2, i, .u8, ys, hfit, _, _, _, _ => by simp [fitA] at hfit
  | r + 2, i, .bool, ys, hfit, _, _, _, _ => by simp [fitA] at hfit
  | r + 2, i, .str, ys, hfit, _, _, _, _ => by simp [fitA] at hfit
  | r + 2, i, .sl _ _, ys, hfit, _, _, _, _ => by simp [fitA] at hfit
theorem open_anyB : ∀ (n : Nat) (t : TypeId) (s : Sh) (fuel : Nat) (cs : List Value) (x : DataW H × List MemPlace), fitB P n t s = true → DataW.trod enc P w 0 (fun _ => true) true fuel t cs = some x →
    (∀ m ∈ x.1.weights P t, m ≤ 140737488351232) → ∃ d : s.T, Rd w s cs d ∧ shB s d ≤ Rows.uptoBulk x.1
  | 0, _, _, _, _, _, h, _, _ => by simp [fitB] at h
  | n + 1, t, s, fuel, cs, x, h, ht, hw => by
    unfold fitB at h
    split at h
    · rename_i k hu
      obtain ⟨z, rfl, rfl, hz⟩ := DataW.trod_int hu ht
      cases s <;> simp at h
      · subst h
        exact ⟨z, ⟨rfl, hz⟩, bulk_one _⟩
      · subst h
        have hb := bounds_u8 hz
        refine ⟨UInt8.ofNat z.toNat, ?_, bulk_one _⟩
        show _ = [bV _]
        simp only [bV, UInt8.toNat_ofNat']
        congr 2
        omega
    · rename_i hu
      obtain ⟨b, rfl, rfl⟩ := DataW.trod_bool hu ht
      cases s <;> simp at h
      exact ⟨b, rfl, bulk_one _⟩
    · rename_i hu
      obtain ⟨b, rfl, rfl, hb⟩ := DataW.trod_string hu ht
      cases s <;> simp at h
      exact ⟨b, ⟨rfl, by simpa using hw b.data.toList.length (by simp [DataW.weights])⟩, by show b.size + 1 ≤ _; simp [Rows.uptoBulk]⟩
    · rename_i e hu
      cases s <;> simp at h
      rename_i b s'
      obtain ⟨h1, h2, h3⟩ := h
      rcases open_slice hu ht with ⟨rfl, rfl⟩ | ⟨a, len, cap, m, n', D, Pl, rfl, _, hl, hm, hmm, rfl, hi⟩
      · exact ⟨[], ⟨none, 0, 0, rfl, Nat.le_refl _, by omega, by unfold maxLen; omega, rfl, fun h => by omega⟩, bulk_one _⟩
      · simp only [if_true] at hmm
        subst hmm
        have hcap : m * b ≤ 140737488351232 := by
          have := hw ((((List.range len).map D).length + ((List.range (m - len)).map fun j => D (len + j)).length) * P.bytesOf e) (by simp [DataW.weights, hu])
          rw [List.length_map, List.length_map, List.length_range, List.length_range, h2, show len + (m - len) = m from by omega] at this
          exact this
        have key : ∀ i, i < len → ∃ d : s'.T, ∃ xs, xs.length = s'.size ∧ (∀ j u, xs[j]? = some u → w.cell? (a.add (i * s'.size + j)) = some u) ∧ Rd w s' xs d ∧ shB s' d ≤ Rows.uptoBulk (D i) := by
          intro i hil
          obtain ⟨cs', hc, ht'⟩ := hi i (by omega)
          rw [h1] at hc
          obtain ⟨_, hcl, hat⟩ := World.cells?_some hc
          obtain ⟨d, hd, hbd⟩ := open_anyB n e s' n' cs' _ h3 ht' (fun m hm => hw m (by
            simp only [DataW.weights, hu, List.mem_cons, List.mem_append]
            exact .inr (.inl (weightsAll_mem (List.mem_map.2 ⟨i, List.mem_range.2 hil, rfl⟩) m hm))))
          refine ⟨d, cs', hcl, fun j u hu' => ?_, hd, hbd⟩
          have hj : j < s'.size := by rw [← hcl]; exact (List.getElem?_eq_some_iff.1 hu').1
          rw [← Go.Deep.add_add, hat j hj, hu']
        obtain ⟨l, hll, hlp⟩ := choose_lt' key
        have hsum : shB (.sl b s') l ≤ Rows.uptoBulk (.slice ((List.range len).map D) ((List.range (m - len)).map fun j => D (len + j))) := by
          have := sum_bulk (f := shB s') D l len hll (fun i x hx => (hlp i x hx).choose_spec.2.2.2)
          show (l.map (shB s')).sum + 1 ≤ _
          simp only [Rows.uptoBulk]
          omega
        refine ⟨l, ⟨_, len, m, rfl, hl, hcap, hm, hll, fun hn => ?_⟩, hsum⟩
        obtain ⟨g, off, spot⟩ := a
        have hspot : spot = none := by
          obtain ⟨d, xs, k1, k2, _, _⟩ := key 0 hn
          have hp := s'.size_pos
          simpa [Addr.add] using World.cell?_spot (k2 0 _ (List.getElem?_eq_getElem (by omega)))
        subst hspot
        refine ⟨g, off, rfl, fun i x hx => ?_⟩
        obtain ⟨xs, k1, k2, k3, _⟩ := hlp i x hx
        refine ⟨xs, k1, fun j u hu' => ?_, k3⟩
        rw [Nat.add_assoc, ← add_plain']
        exact k2 j u hu'
    · rename_i fs hu
      simp only [Bool.and_eq_true, beq_iff_eq] at h
      obtain ⟨h1, h2⟩ := h
      obtain ⟨ys, n', _, rfl, hcl, hyl, hfl⟩ := DataW.trod_struct hu ht
      have := open_fieldsB (enc := enc) (P := P) (w := w) (f := fitB P n) (cs := cs) (n := n') (fun t s xs y hfit htr hwt => open_anyB n t s n' xs y hfit htr hwt) fs.toList 0 s ys h2 (by omega) (fun i x hx => hfl i x (by simpa using hx)) (by simpa using hyl)
        (fun m hm => hw m (by simpa [DataW.weights, hu] using hm))
      obtain ⟨d, hd, hbd⟩ := this
      exact ⟨d, by simpa using hd, by simp only [Rows.uptoBulk]; omega⟩
    · rename_i k e hu
      simp only [Bool.and_eq_true, beq_iff_eq] at h
      obtain ⟨h1, h2⟩ := h
      obtain ⟨ys, n', _, rfl, hcl, hyl, hfl⟩ := DataW.trod_array hu ht
      have := open_elemsB (enc := enc) (P := P) (w := w) (f := fitB P n e) (cs := cs) (n := n') (e := e) (k := P.cellsOf e) (fun s xs y hfit htr hwt => open_anyB n e s n' xs y hfit htr hwt) k 0 s ys h2 (by omega) (fun j hj => by rw [Nat.zero_add]; exact hfl j hj) hyl
        (fun m hm => hw m (by simpa [DataW.weights, hu] using hm))
      obtain ⟨d, hd, hbd⟩ := this
      exact ⟨d, by simpa using hd, by simp only [Rows.uptoBulk]; omega⟩
    · cases h

/-- An argument of the j-th parameter's shape. -/
theorem open_shB {ts : List TypeId} {ds : List (DataW H)} (hsz : (DataW.weightsEach P ts ds).all (· ≤ reachBytes) = true) {j : Nat} {t : TypeId} {d : DataW H} {v : Value} {p : List MemPlace} {s : Sh} (ht : ts[j]? = some t) (hd : ds[j]? = some d)
    (n : Nat) (hfit : fitB P n t s = true) (h : DataW.Trod enc P w 0 (fun _ => true) true t v d p) : ∃ x : s.T, Rd w s v.cells.toList x ∧ shB s x ≤ Rows.uptoBulk d := by
  obtain ⟨fuel, hf⟩ := h
  refine open_anyB n t s fuel _ _ hfit hf fun m hm => ?_
  exact of_decide_eq_true (List.all_eq_true.1 hsz _ (DataW.weights_mem_each ht hd m hm))
/-- A slice that came in. -/
theorem open_sh_sliceB {ts : List TypeId} {ds : List (DataW H)} (hsz : (DataW.weightsEach P ts ds).all (· ≤ reachBytes) = true) {j base b : Nat} {t e : TypeId} {d : DataW H} {v : Value} {p : List MemPlace} {s : Sh} (ht : ts[j]? = some t) (hd : ds[j]? = some d)
    (hu : P.underlying t = some (.slice e)) (hv : Value.okWide P w .any base t v) (n : Nat) (hfit : fitB P n t (.sl b s) = true) (h : DataW.Trod enc P w 0 (fun _ => true) true t v d p) : ∃ (A : Option Addr) (n c : Nat) (x : List s.T), v = .slice A n c ∧ Rd w (.sl b s) [.slice A n c] x ∧ shB (.sl b s) x ≤ Rows.uptoBulk d := by
  obtain ⟨A, n', c, rfl⟩ := okWide_slice hu hv
  obtain ⟨x, hx, hxb⟩ := open_shB hsz ht hd n hfit h
  exact ⟨A, n', c, x, rfl, hx, hxb⟩
/-- A struct that came in. -/
theorem open_sh_structB {ts : List TypeId} {ds : List (DataW H)} (hsz : (DataW.weightsEach P ts ds).all (· ≤ reachBytes) = true) {j base : Nat} {t : TypeId} {fs : Array Field} {d : DataW H} {v : Value} {p : List MemPlace} {s : Sh} (ht : ts[j]? = some t) (hd : ds[j]? = some d)
    (hu : P.underlying t = some (.struct fs)) (hv : Value.okWide P w .any base t v) (n : Nat) (hfit : fitB P n t s = true) (h : DataW.Trod enc P w 0 (fun _ => true) true t v d p) : ∃ (cs : List Value) (x : s.T), v = .agg cs.toArray ∧ Rd w s cs x ∧ shB s x ≤ Rows.uptoBulk d := by
  obtain ⟨cs, rfl, _⟩ := okWide_struct hu hv
  obtain ⟨x, hx, hxb⟩ := open_shB hsz ht hd n hfit h
  exact ⟨cs.toList, x, by simp, by simpa [Value.cells] using hx, hxb⟩
end
end Go.Proofs.Ytgnedaihchmoaaa
