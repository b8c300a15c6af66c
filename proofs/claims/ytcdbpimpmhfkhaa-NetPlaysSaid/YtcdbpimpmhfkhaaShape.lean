/-
  Arguments of any shape (numbers, strings, slices of such, structs of such), opened at once. No program is looked at here.
-/
import Derived.Test.YtcdbpimpmhfkhaaSpanMem
import Derived.Deep.Slices
namespace Go.Proofs.Ytcdbpimpmhfkhaa
open Go.ChangeShapes Go.WideShapes Go.ChangeAt Go.RowKit Go.Deep
set_option linter.unusedVariables false

/-- A shape: 'sl b s' is a slice whose elements take b bytes each. -/
inductive Sh where
  | int (k : IntKind)
  | u8
  | bool
  | str
  | sl (b : Nat) (s : Sh)
  | pair (a b : Sh)
def Sh.size : Sh → Nat
  | .pair a b => a.size + b.size
  | _ => 1
abbrev Sh.T : Sh → Type
  | .int _ => Int
  | .u8 => UInt8
  | .bool => Bool
  | .str => ByteArray
  | .sl _ s => List s.T
  | .pair a b => a.T × b.T
/-- The cells cs read as d. -/
def Rd (w : World) : (s : Sh) → List Value → s.T → Prop
  | .int k, cs, d => cs = [.int k d] ∧ (Lit.int k d).wf = true
  | .u8, cs, d => cs = [bV d]
  | .bool, cs, d => cs = [.bool d]
  | .str, cs, d => cs = [.string d] ∧ d.size ≤ 140737488351232
  | .sl b s, cs, d => ∃ A n c, cs = [.slice A n c] ∧ n ≤ c ∧ c * b ≤ 140737488351232 ∧ c ≤ maxLen ∧ d.length = n ∧
      (0 < n → ∃ g off, A = some ⟨g, off, none⟩ ∧ ∀ i x, d[i]? = some x → ∃ xs, xs.length = s.size ∧ (∀ j u, xs[j]? = some u → w.cell? ⟨g, off + i * s.size + j, none⟩ = some u) ∧ Rd w s xs x)
  | .pair a b, cs, d => ∃ c1 c2, cs = c1 ++ c2 ∧ Rd w a c1 d.1 ∧ Rd w b c2 d.2

theorem Rd.len {w : World} : ∀ {s : Sh} {cs : List Value} {d : s.T}, Rd w s cs d → cs.length = s.size
  | .int _, _, _, h => by obtain ⟨rfl, _⟩ := h; rfl
  | .u8, _, _, h => by obtain rfl : _ = _ := h; rfl
  | .bool, _, _, h => by obtain rfl : _ = _ := h; rfl
  | .str, _, _, h => by obtain ⟨rfl, _⟩ := h; rfl
  | .sl _ _, _, _, h => by obtain ⟨A, n, c, rfl, _⟩ := h; rfl
  | .pair a b, _, _, h => by
    obtain ⟨c1, c2, rfl, h1, h2⟩ := h
    rw [List.length_append, Rd.len h1, Rd.len h2]; rfl
theorem Rd.move {w w' : World} (hk : ∀ p : Addr, p.block < w.heap.size → w'.cell? p = w.cell? p) : ∀ {s : Sh} {cs : List Value} {d : s.T}, Rd w s cs d → Rd w' s cs d
  | .int _, _, _, h => h
  | .u8, _, _, h => h
  | .bool, _, _, h => h
  | .str, _, _, h => h
  | .sl _ s, _, _, h => by
    obtain ⟨A, n, c, e, h1, h2, h3, h4, h5⟩ := h
    refine ⟨A, n, c, e, h1, h2, h3, h4, fun hn => ?_⟩
    obtain ⟨g, off, hA, hc⟩ := h5 hn
    refine ⟨g, off, hA, fun i x hx => ?_⟩
    obtain ⟨xs, k1, k2, k3⟩ := hc i x hx
    exact ⟨xs, k1, fun j u hu => (hk _ (World.block_lt_of_cell? w _ (k2 j u hu))).trans (k2 j u hu), k3.move hk⟩
  | .pair a b, _, _, h => by
    obtain ⟨c1, c2, e, h1, h2⟩ := h
    exact ⟨c1, c2, e, h1.move hk, h2.move hk⟩
theorem Rd.below {w w' : World} {s : Sh} {cs : List Value} {d : s.T} (h : Rd w s cs d) (hb : Below w.heap.size w w') : Rd w' s cs d := h.move fun _ hp => hb.cell hp

/-- Do the fields of a struct, one behind the other, have the shape? -/
def fitF (P : Program) (f : TypeId → Sh → Bool) : List Field → Nat → Sh → Bool
  | [], _, _ => false
  | x :: r, off, s => x.offset == off && match r, s with
    | [], s => P.cellsOf x.type == s.size && f x.type s
    | _ :: _, .pair a b => P.cellsOf x.type == a.size && (f x.type a && fitF P f r (off + a.size) b)
    | _, _ => false
def fitA (f : Sh → Bool) (k : Nat) : Nat → Sh → Bool
  | 0, _ => false
  | 1, s => s.size == k && f s
  | n + 2, .pair a b => a.size == k && (f a && fitA f k (n + 1) b)
  | _, _ => false
/-- Has a type the shape? -/
def fitB (P : Program) : Nat → TypeId → Sh → Bool
  | 0, _, _ => false
  | n + 1, t, s => match P.underlying t with
    | some (.int k) => match s with | .int k' => k == k' | .u8 => k == .u8 | _ => false
    | some .bool => match s with | .bool => true | _ => false
    | some .string => match s with | .str => true | _ => false
    | some (.slice e) => match s with | .sl b s' => P.cellsOf e == s'.size && (P.bytesOf e == b && fitB P n e s') | _ => false
    | some (.struct fs) => P.cellsOf t == s.size && fitF P (fitB P n) fs.toList 0 s
    | some (.array k e) => P.cellsOf t == s.size && fitA (fitB P n e) (P.cellsOf e) k s
    | _ => false

section
variable {H : Type} {enc : TypeId × Value → H} {P : Program} {w : World}
theorem weightsAll_mem {e : TypeId} : ∀ {ds : List (DataW H)} {d : DataW H}, d ∈ ds → ∀ m ∈ d.weights P e, m ∈ DataW.weightsAll P e ds
  | x :: r, d, h, m, hm => by
    simp only [DataW.weightsAll, List.mem_append]
    rcases List.mem_cons.1 h with rfl | h
    · exact .inl hm
    · exact .inr (weightsAll_mem h m hm)
theorem choose_lt' {α : Type} {p : Nat → α → Prop} : ∀ {n : Nat}, (∀ i, i < n → ∃ x, p i x) → ∃ l : List α, l.length = n ∧ ∀ i x, l[i]? = some x → p i x
  | 0, _ => ⟨[], rfl, by simp⟩
  | n + 1, h => by
    obtain ⟨l, hl, hp⟩ := choose_lt' (n := n) (fun i hi => h i (by omega))
    obtain ⟨x, hx⟩ := h n (by omega)
    refine ⟨l ++ [x], by simp [hl], fun i y hy => ?_⟩
    rw [List.getElem?_append] at hy
    split at hy
    · exact hp i y hy
    · have hi : i = n := by
        have := (List.getElem?_eq_some_iff.1 hy).1
        simp at this
        omega
      subst hi
      simp [hl] at hy
      exact hy ▸ hx
/-- What a shape's reader gives of a struct's fields from 'off' on. -/
theorem open_fields {n : Nat} {f : TypeId → Sh → Bool} {cs : List Value}
    (hf : ∀ (t : TypeId) (s : Sh) (xs : List Value) (y : DataW H × List MemPlace), f t s = true → DataW.trod enc P w 0 (fun _ => true) true n t xs = some y → (∀ m ∈ y.1.weights P t, m ≤ 140737488351232) → ∃ d : s.T, Rd w s xs d) :
    ∀ (fs : List Field) (off : Nat) (s : Sh) (ys : List (DataW H × List MemPlace)), fitF P f fs off s = true → off + s.size = cs.length →
      (∀ (i : Nat) (x : Field), fs[i]? = some x → DataW.trod enc P w 0 (fun _ => true) true n x.type ((cs.drop x.offset).take (P.cellsOf x.type)) = ys[i]?) → ys.length = fs.length →
      (∀ m ∈ DataW.weightsEach P (fs.map (·.type)) (ys.map (·.1)), m ≤ 140737488351232) → ∃ d : s.T, Rd w s (cs.drop off) d
  | [], off, s, ys, hfit, _, _, _, _ => by simp [fitF] at hfit
  | [x], off, s, ys, hfit, hlen, hy, hyl, hw => by
    simp only [fitF, Bool.and_eq_true, beq_iff_eq] at hfit
    obtain ⟨h1, h2, h3⟩ := hfit
    match ys, hyl with
    | [y], _ =>
      have g := hy 0 x rfl
      rw [h1, h2, List.take_of_length_le (by rw [List.length_drop]; omega)] at g
      exact hf _ _ _ y h3 g (fun m hm => hw m (by simpa [DataW.weightsEach] using hm))
  | x :: z :: r, off, .pair a b, ys, hfit, hlen, hy, hyl, hw => by
    simp only [fitF, Bool.and_eq_true, beq_iff_eq] at hfit
    obtain ⟨h1, h2, h3, h4⟩ := hfit
    match ys, hyl with
    | y :: ys', hyl' =>
      have g := hy 0 x rfl
      rw [h1, h2] at g
      obtain ⟨d1, hd1⟩ := hf _ _ _ y h3 g (fun m hm => hw m (by simp only [List.map_cons, DataW.weightsEach, List.mem_append]; exact .inl hm))
      obtain ⟨d2, hd2⟩ := open_fields hf (z :: r) (off + a.size) b ys' (by simpa only [fitF, Bool.and_eq_true, beq_iff_eq] using h4) (by rw [← hlen]; simp only [Sh.size]; omega) (fun i x' hx' => hy (i + 1) x' hx') (by simpa using hyl')
        (fun m hm => hw m (by simp only [List.map_cons, DataW.weightsEach, List.mem_append] at hm ⊢; exact .inr hm))
      refine ⟨(d1, d2), (cs.drop off).take a.size, cs.drop (off + a.size), ?_, hd1, hd2⟩
      rw [← List.drop_drop, List.take_append_drop]
  | x :: z :: r, off, .int _, ys, hfit, _, _, _, _ => by simp [fitF] at hfit
  | x :: z :: r, off, .u8, ys, hfit, _, _, _, _ => by simp [fitF] at hfit
  | x :: z :: r, off, .bool, ys, hfit, _, _, _, _ => by simp [fitF] at hfit
  | x :: z :: r, off, .str, ys, hfit, _, _, _, _ => by simp [fitF] at hfit
  | x :: z :: r, off, .sl _ _, ys, hfit, _, _, _, _ => by simp [fitF] at hfit
/-- What a shape's reader gives of an array's elements from the k-th on. -/
theorem open_elems {n k : Nat} {e : TypeId} {f : Sh → Bool} {cs : List Value}
    (hf : ∀ (s : Sh) (xs : List Value) (y : DataW H × List MemPlace), f s = true → DataW.trod enc P w 0 (fun _ => true) true n e xs = some y → (∀ m ∈ y.1.weights P e, m ≤ 140737488351232) → ∃ d : s.T, Rd w s xs d) :
    ∀ (r i : Nat) (s : Sh) (ys : List (DataW H × List MemPlace)), fitA f k r s = true → i * k + s.size = cs.length →
      (∀ j, j < r → DataW.trod enc P w 0 (fun _ => true) true n e ((cs.drop ((i + j) * k)).take k) = ys[j]?) → ys.length = r →
      (∀ m ∈ DataW.weightsAll P e (ys.map (·.1)), m ≤ 140737488351232) → ∃ d : s.T, Rd w s (cs.drop (i * k)) d
  | 0, i, s, ys, hfit, _, _, _, _ => by simp [fitA] at hfit
  | 1, i, s, ys, hfit, hlen, hy, hyl, hw => by
    simp only [fitA, Bool.and_eq_true, beq_iff_eq] at hfit
    obtain ⟨h2, h3⟩ := hfit
    match ys, hyl with
    | [y], _ =>
      have g := hy 0 (by omega)
      rw [Nat.add_zero, List.take_of_length_le (by rw [List.length_drop]; omega)] at g
      exact hf _ _ y h3 g (fun m hm => hw m (by simpa [DataW.weightsAll] using hm))
  | r + 2, i, .pair a b, ys, hfit, hlen, hy, hyl, hw => by
    simp only [fitA, Bool.and_eq_true, beq_iff_eq] at hfit
    obtain ⟨h2, h3, h4⟩ := hfit
    match ys, hyl with
    | y :: ys', hyl' =>
      have g := hy 0 (by omega)
      rw [Nat.add_zero] at g
      have e1 : i * k + a.size = (i + 1) * k := by rw [h2, Nat.add_mul, Nat.one_mul]
      obtain ⟨d1, hd1⟩ := hf _ _ y h3 g (fun m hm => hw m (by simp only [List.map_cons, DataW.weightsAll, List.mem_append]; exact .inl hm))
      obtain ⟨d2, hd2⟩ := open_elems hf (r + 1) (i + 1) b ys' h4 (by rw [← hlen, ← e1]; simp only [Sh.size]; omega)
        (fun j hj => by have := hy (j + 1) (by omega); rwa [show i + (j + 1) = i + 1 + j from by omega] at this) (by simpa using hyl') (fun m hm => hw m (by simp only [List.map_cons, DataW.weightsAll, List.mem_append]; exact .inr hm))
      refine ⟨(d1, d2), (cs.drop (i * k)).take k, cs.drop ((i + 1) * k), ?_, hd1, hd2⟩
      rw [← e1, h2, ← List.drop_drop, List.take_append_drop]
  | r + 2, i, .int _, ys, hfit, _, _, _, _ => by simp [fitA] at hfit
  | r + 2, i, .u8, ys, hfit, _, _, _, _ => by simp [fitA] at hfit
  | r + 2, i, .bool, ys, hfit, _, _, _, _ => by simp [fitA] at hfit
  | r + 2, i, .str, ys, hfit, _, _, _, _ => by simp [fitA] at hfit
  | r + 2, i, .sl _ _, ys, hfit, _, _, _, _ => by simp [fitA] at hfit
theorem Sh.size_pos : ∀ s : Sh, 0 < s.size
  | .pair a b => by have := a.size_pos; simp only [Sh.size]; omega
  | .int _ => by simp [Sh.size]
  | .u8 => by simp [Sh.size]
  | .bool => by simp [Sh.size]
  | .str => by simp [Sh.size]
  | .sl _ _ => by simp [Sh.size]

theorem open_any : ∀ (n : Nat) (t : TypeId) (s : Sh) (fuel : Nat) (cs : List Value) (x : DataW H × List MemPlace), fitB P n t s = true → DataW.trod enc P w 0 (fun _ => true) true fuel t cs = some x →
    (∀ m ∈ x.1.weights P t, m ≤ 140737488351232) → ∃ d : s.T, Rd w s cs d
  | 0, _, _, _, _, _, h, _, _ => by simp [fitB] at h
  | n + 1, t, s, fuel, cs, x, h, ht, hw => by
    unfold fitB at h
    split at h
    · rename_i k hu
      obtain ⟨z, rfl, rfl, hz⟩ := DataW.trod_int hu ht
      cases s <;> simp at h
      · subst h
        exact ⟨z, rfl, hz⟩
      · subst h
        have hb := bounds_u8 hz
        refine ⟨UInt8.ofNat z.toNat, ?_⟩
        show _ = [bV _]
        simp only [bV, UInt8.toNat_ofNat']
        congr 2
        omega
    · rename_i hu
      obtain ⟨b, rfl, rfl⟩ := DataW.trod_bool hu ht
      cases s <;> simp at h
      exact ⟨b, rfl⟩
    · rename_i hu
      obtain ⟨b, rfl, rfl, hb⟩ := DataW.trod_string hu ht
      cases s <;> simp at h
      exact ⟨b, rfl, by simpa using hw b.data.toList.length (by simp [DataW.weights])⟩
    · rename_i e hu
      cases s <;> simp at h
      rename_i b s'
      obtain ⟨h1, h2, h3⟩ := h
      rcases open_slice hu ht with ⟨rfl, rfl⟩ | ⟨a, len, cap, m, n', D, Pl, rfl, _, hl, hm, hmm, rfl, hi⟩
      · exact ⟨[], none, 0, 0, rfl, Nat.le_refl _, by omega, by unfold maxLen; omega, rfl, fun h => by omega⟩
      · simp only [if_true] at hmm
        subst hmm
        have hcap : m * b ≤ 140737488351232 := by
          have := hw ((((List.range len).map D).length + ((List.range (m - len)).map fun j => D (len + j)).length) * P.bytesOf e) (by simp [DataW.weights, hu])
          rw [List.length_map, List.length_map, List.length_range, List.length_range, h2, show len + (m - len) = m from by omega] at this
          exact this
        have key : ∀ i, i < len → ∃ d : s'.T, ∃ xs, xs.length = s'.size ∧ (∀ j u, xs[j]? = some u → w.cell? (a.add (i * s'.size + j)) = some u) ∧ Rd w s' xs d := by
          intro i hil
          obtain ⟨cs', hc, ht'⟩ := hi i (by omega)
          rw [h1] at hc
          obtain ⟨_, hcl, hat⟩ := World.cells?_some hc
          obtain ⟨d, hd⟩ := open_any n e s' n' cs' _ h3 ht' (fun m hm => hw m (by
            simp only [DataW.weights, hu, List.mem_cons, List.mem_append]
            exact .inr (.inl (weightsAll_mem (List.mem_map.2 ⟨i, List.mem_range.2 hil, rfl⟩) m hm))))
          refine ⟨d, cs', hcl, fun j u hu' => ?_, hd⟩
          have hj : j < s'.size := by rw [← hcl]; exact (List.getElem?_eq_some_iff.1 hu').1
          rw [← Go.Deep.add_add, hat j hj, hu']
        obtain ⟨l, hll, hlp⟩ := choose_lt' key
        refine ⟨l, _, len, m, rfl, hl, hcap, hm, hll, fun hn => ?_⟩
        obtain ⟨g, off, spot⟩ := a
        have hspot : spot = none := by
          obtain ⟨d, xs, k1, k2, _⟩ := key 0 hn
          have hp := s'.size_pos
          simpa [Addr.add] using World.cell?_spot (k2 0 _ (List.getElem?_eq_getElem (by omega)))
        subst hspot
        refine ⟨g, off, rfl, fun i x hx => ?_⟩
        obtain ⟨xs, k1, k2, k3⟩ := hlp i x hx
        refine ⟨xs, k1, fun j u hu' => ?_, k3⟩
        rw [Nat.add_assoc, ← add_plain']
        exact k2 j u hu'
    · rename_i fs hu
      simp only [Bool.and_eq_true, beq_iff_eq] at h
      obtain ⟨h1, h2⟩ := h
      obtain ⟨ys, n', _, rfl, hcl, hyl, hfl⟩ := DataW.trod_struct hu ht
      have := open_fields (enc := enc) (P := P) (w := w) (f := fitB P n) (cs := cs) (n := n') (fun t s xs y hfit htr hwt => open_any n t s n' xs y hfit htr hwt) fs.toList 0 s ys h2 (by omega) (fun i x hx => hfl i x (by simpa using hx)) (by simpa using hyl)
        (fun m hm => hw m (by simpa [DataW.weights, hu] using hm))
      simpa using this
    · rename_i k e hu
      simp only [Bool.and_eq_true, beq_iff_eq] at h
      obtain ⟨h1, h2⟩ := h
      obtain ⟨ys, n', _, rfl, hcl, hyl, hfl⟩ := DataW.trod_array hu ht
      have := open_elems (enc := enc) (P := P) (w := w) (f := fitB P n e) (cs := cs) (n := n') (e := e) (k := P.cellsOf e) (fun s xs y hfit htr hwt => open_any n e s n' xs y hfit htr hwt) k 0 s ys h2 (by omega) (fun j hj => by rw [Nat.zero_add]; exact hfl j hj) hyl
        (fun m hm => hw m (by simpa [DataW.weights, hu] using hm))
      simpa using this
    · cases h

/-- An argument of the j-th parameter's shape. -/
theorem open_sh {ts : List TypeId} {ds : List (DataW H)} (hsz : (DataW.weightsEach P ts ds).all (· ≤ reachBytes) = true) {j : Nat} {t : TypeId} {d : DataW H} {v : Value} {p : List MemPlace} {s : Sh} (ht : ts[j]? = some t) (hd : ds[j]? = some d)
    (n : Nat) (hfit : fitB P n t s = true) (h : DataW.Trod enc P w 0 (fun _ => true) true t v d p) : ∃ x : s.T, Rd w s v.cells.toList x := by
  obtain ⟨fuel, hf⟩ := h
  refine open_any n t s fuel _ _ hfit hf fun m hm => ?_
  exact of_decide_eq_true (List.all_eq_true.1 hsz _ (DataW.weights_mem_each ht hd m hm))
/-- A slice that came in. -/
theorem open_sh_slice {ts : List TypeId} {ds : List (DataW H)} (hsz : (DataW.weightsEach P ts ds).all (· ≤ reachBytes) = true) {j base b : Nat} {t e : TypeId} {d : DataW H} {v : Value} {p : List MemPlace} {s : Sh} (ht : ts[j]? = some t) (hd : ds[j]? = some d)
    (hu : P.underlying t = some (.slice e)) (hv : Value.okWide P w .any base t v) (n : Nat) (hfit : fitB P n t (.sl b s) = true) (h : DataW.Trod enc P w 0 (fun _ => true) true t v d p) : ∃ (A : Option Addr) (n c : Nat) (x : List s.T), v = .slice A n c ∧ Rd w (.sl b s) [.slice A n c] x := by
  obtain ⟨A, n', c, rfl⟩ := okWide_slice hu hv
  obtain ⟨x, hx⟩ := open_sh hsz ht hd n hfit h
  exact ⟨A, n', c, x, rfl, hx⟩
/-- A struct that came in. -/
theorem open_sh_struct {ts : List TypeId} {ds : List (DataW H)} (hsz : (DataW.weightsEach P ts ds).all (· ≤ reachBytes) = true) {j base : Nat} {t : TypeId} {fs : Array Field} {d : DataW H} {v : Value} {p : List MemPlace} {s : Sh} (ht : ts[j]? = some t) (hd : ds[j]? = some d)
    (hu : P.underlying t = some (.struct fs)) (hv : Value.okWide P w .any base t v) (n : Nat) (hfit : fitB P n t s = true) (h : DataW.Trod enc P w 0 (fun _ => true) true t v d p) : ∃ (cs : List Value) (x : s.T), v = .agg cs.toArray ∧ Rd w s cs x := by
  obtain ⟨cs, rfl, _⟩ := okWide_struct hu hv
  obtain ⟨x, hx⟩ := open_sh hsz ht hd n hfit h
  exact ⟨cs.toList, x, by simp, by simpa [Value.cells] using hx⟩
end

/-! ### What is read, in the other texts' words -/
theorem Rd.bytes {w : World} {A : Option Addr} {n c b : Nat} {l : List UInt8} (h : Rd w (.sl b .u8) [.slice A n c] l) : SlB w A n l ∧ n ≤ c ∧ c * b ≤ 140737488351232 := by
  obtain ⟨A', n', c', e, h1, h2, h3, h4, h5⟩ := h
  simp only [List.cons.injEq, Value.slice.injEq, and_true] at e
  obtain ⟨rfl, rfl, rfl⟩ := e
  refine ⟨⟨by rw [bsV_length]; omega, fun hn => ?_⟩, h1, h2⟩
  obtain ⟨g, off, rfl, hc⟩ := h5 (by omega)
  refine ⟨g, off, rfl, fun j u hu => ?_⟩
  simp only [bsV, List.getElem?_map, Option.map_eq_some_iff] at hu
  obtain ⟨y, hy, rfl⟩ := hu
  obtain ⟨xs, k1, k2, rfl⟩ := hc j y hy
  simpa [Sh.size] using k2 0 _ rfl
theorem Rd.ints {w : World} {A : Option Addr} {n c b : Nat} {k : IntKind} {l : List Int} (h : Rd w (.sl b (.int k)) [.slice A n c] l) : Sl w A n 1 (l.map (Value.int k)) ∧ n ≤ c ∧ c * b ≤ 140737488351232 := by
  obtain ⟨A', n', c', e, h1, h2, h3, h4, h5⟩ := h
  simp only [List.cons.injEq, Value.slice.injEq, and_true] at e
  obtain ⟨rfl, rfl, rfl⟩ := e
  refine ⟨⟨by simp [h4], fun hn => ?_⟩, h1, h2⟩
  obtain ⟨g, off, rfl, hc⟩ := h5 (by omega)
  refine ⟨g, off, rfl, fun j u hu => ?_⟩
  simp only [List.getElem?_map, Option.map_eq_some_iff] at hu
  obtain ⟨y, hy, rfl⟩ := hu
  obtain ⟨xs, k1, k2, rfl, _⟩ := hc j y hy
  simpa [Sh.size] using k2 0 _ rfl
/-- The k-th element of a slice. -/
theorem Rd.elem {w : World} {A : Option Addr} {n c b : Nat} {s : Sh} {l : List s.T} (h : Rd w (.sl b s) [.slice A n c] l) : l.length = n ∧ n ≤ c ∧ c * b ≤ 140737488351232 ∧ c ≤ maxLen ∧
    ∀ k, k < n → ∃ g off x xs, A = some ⟨g, off, none⟩ ∧ l[k]? = some x ∧ xs.length = s.size ∧ (∀ j u, xs[j]? = some u → w.cell? ⟨g, off + k * s.size + j, none⟩ = some u) ∧ Rd w s xs x := by
  obtain ⟨A', n', c', e, h1, h2, h3, h4, h5⟩ := h
  simp only [List.cons.injEq, Value.slice.injEq, and_true] at e
  obtain ⟨rfl, rfl, rfl⟩ := e
  refine ⟨h4, h1, h2, h3, fun k hk => ?_⟩
  obtain ⟨g, off, hA, hc⟩ := h5 (by omega)
  have hx : l[k]? = some (l[k]'(by omega)) := List.getElem?_eq_getElem _
  obtain ⟨xs, k1, k2, k3⟩ := hc k _ hx
  exact ⟨g, off, _, xs, hA, hx, k1, k2, k3⟩
end Go.Proofs.Ytcdbpimpmhfkhaa
